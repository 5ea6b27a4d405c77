/-
  What the row leans on.
-/
import Derived.Test.YtjjifefanjnghaaIwx06
import Derived.Test.YtjjifefanjnghaaBas08
import Derived.Test.YtjjifefanjnghaaBas10
import Derived.Test.YtjjifefanjnghaaIwx01
import Derived.Test.YtjjifefanjnghaaBas09
import Derived.Test.YtjjifefanjnghaaIwx03
import Derived.Deep.RegionHeld3
import Derived.Test.YtjjifefanjnghaaBas03
set_option linter.unusedSimpArgs false
set_option linter.unusedVariables false
namespace Go.Proofs.Ytjjifefanjnghaa
open Go.RowKit
set_option maxRecDepth 100000
section

structure Pw where
 x : Int
 y : Int
 w : List Int
def Pw.pr (p : Pw) : Int × Int := (p.x,p.y)
theorem Bfs.shortW {α : Type} {stp : α → Int → α} {s0 : α} {dead : α → Prop} {evs : List Int} {i k : Nat} {vs : List α} {ws : List (List Int)} (h : Bfs stp s0 dead evs i k vs ws) : ∀ (j : Nat) (w : List Int),ws[j]? = some w → w.length ≤ j := by
 intro j;induction j using Nat.strongRecOn with
 | ind j ih =>
   intro w hw;by_cases h0 : j = 0
   · subst h0; rw [h.zw] at hw; cases hw; simp
   · obtain ⟨b,u,e,_,hb,hu,rfl⟩ := h.pre j w (by omega) hw;have := ih b hb u hu;simp; omega
structure LInv (a b : Au) (s0 : Int × Int) (i k t : Nat) (l : List Pw) : Prop where
 bfs : Bfs (stp2 a b) s0 dead2 ev32 i k (l.map Pw.pr) (l.map Pw.w)
 nd : (l.map Pw.pr).Nodup
 rg : ∀ v,v ∈ l → -1 ≤ v.x ∧ v.x < a.n ∧ -1 ≤ v.y ∧ v.y < b.n
 al : ∀ v,v ∈ l → v.pr ≠ (-1,-1)
 no : ∀ (j : Nat) v,j < t → (l.map Pw.pr)[j]? = some v → pdV a b v = false
section
variable {a b : Au} {s0 : Int × Int} {i k t : Nat} {l : List Pw}
theorem LInv.start (x y : Int) (hx : -1 ≤ x ∧ x < a.n) (hy : -1 ≤ y ∧ y < b.n) (hd : (x,y) ≠ (-1,-1)) : LInv a b (x,y) 0 0 0 [⟨x,y,[]⟩] :=
 ⟨Bfs.start,by simp,fun v hv => by
  simp at hv; subst hv
  simp only; omega,fun v hv => by
  simp at hv; subst hv; exact hd,fun j v h => absurd h (by omega)⟩
theorem LInv.len (h : LInv a b s0 i k t l) (ha : a.Right) (hb : b.Right) : l.length ≤ (a.n.toNat + 2) * (b.n.toNat + 2) := by
 have h1 := nodup_lenN ((a.n.toNat + 2) * (b.n.toNat + 2)) ((l.map Pw.pr).map fun q => (q.1 + 1).toNat * (b.n.toNat + 2) + (q.2 + 1).toNat) ?_ ?_
 · simpa using h1
 · rw [List.nodup_iff_pairwise_ne,List.pairwise_map];refine List.Pairwise.imp_of_mem ?_ (List.nodup_iff_pairwise_ne.1 h.nd);intro p q hp hq hne hc;obtain ⟨v,hv,rfl⟩ := List.mem_map.1 hp;obtain ⟨u,hu,rfl⟩ := List.mem_map.1 hq;have r1 := h.rg v hv;have r2 := h.rg u hu;have n1 := hb.n0;simp only [Pw.pr] at hc hne;have e2 : (v.y + 1).toNat < b.n.toNat + 2 := by omega
   have e3 : (u.y + 1).toNat < b.n.toNat + 2 := by omega
   have e4 : (v.x + 1).toNat = (u.x + 1).toNat := by
    have m1 := Nat.div_eq_of_lt e2;have m2 := Nat.div_eq_of_lt e3;have := congrArg (· / (b.n.toNat + 2)) hc;rw [Nat.mul_comm,Nat.mul_add_div (by omega),m1,Nat.mul_comm,Nat.mul_add_div (by omega),m2] at this;omega
   rw [e4] at hc;exact hne (by rw [Prod.mk.injEq]; omega)
 · intro x hx;obtain ⟨q,hq,rfl⟩ := List.mem_map.1 hx;obtain ⟨v,hv,rfl⟩ := List.mem_map.1 hq;have r1 := h.rg v hv;have n0 := ha.n0;have n1 := hb.n0;simp only [Pw.pr];have e1 : (v.x + 1).toNat + 1 ≤ a.n.toNat + 2 := by omega
   have e2 : (v.y + 1).toNat < b.n.toNat + 2 := by omega
   have := Nat.mul_le_mul_right (b.n.toNat + 2) e1;rw [Nat.succ_mul] at this;omega
theorem LInv.word (h : LInv a b s0 i k t l) {j : Nat} {p : Pw} (hp : l[j]? = some p) : p.w.length ≤ j := h.bfs.shortW j p.w (by rw [List.getElem?_map,hp]; rfl)
theorem LInv.skip (h : LInv a b s0 i k t l) {v : Pw} (hv : l[i]? = some v) (hk : k < 32) (hs : stp2 a b v.pr (k : Int) = (-1,-1) ∨ stp2 a b v.pr (k : Int) ∈ l.map Pw.pr) : LInv a b s0 i (k + 1) t l :=
 ⟨h.bfs.skip ev32_incr (v := v.pr) (by rw [List.getElem?_map,hv]; rfl) (ev32_get hk) (hs.imp id fun g => by
  obtain ⟨j,hj,e⟩ := List.mem_iff_getElem.1 g;exact ⟨j,by rw [List.getElem?_eq_getElem hj,e]⟩),h.nd,h.rg,h.al,h.no⟩
theorem LInv.push (ha : a.Right) (hb : b.Right) (h : LInv a b s0 i k t l) (ht : t ≤ l.length) {v : Pw} (hv : l[i]? = some v) (hk : k < 32) (h1 : ¬ stp2 a b v.pr (k : Int) = (-1,-1)) (h2 : ¬ stp2 a b v.pr (k : Int) ∈ l.map Pw.pr) :
 LInv a b s0 i (k + 1) t (l ++ [⟨(stp2 a b v.pr (k : Int)).1,(stp2 a b v.pr (k : Int)).2,v.w ++ [(k : Int)]⟩]) := by
 have hv' : (l.map Pw.pr)[i]? = some v.pr := by rw [List.getElem?_map,hv]; rfl
 have hw' : (l.map Pw.w)[i]? = some v.w := by rw [List.getElem?_map,hv]; rfl
 refine ⟨?_,?_,fun u hu => ?_,fun u hu => ?_,fun j u hj hu => ?_⟩
 · rw [List.map_append,List.map_append];exact h.bfs.push ev32_incr hv' (ev32_get hk) hw'
 · rw [List.map_append];refine List.nodup_append.2 ⟨h.nd,by simp,fun p hp q hq => ?_⟩;simp at hq
   rintro rfl;refine h2 ?_;rw [hq] at hp;exact hp
 · rcases List.mem_append.1 hu with g | g
   · exact h.rg u g
   · simp at g; subst g
     have := ha.to_cases v.x k;have := hb.to_cases v.y k;have := ha.n0;have := hb.n0;simp only [stp2,Pw.pr];omega
 · rcases List.mem_append.1 hu with g | g
   · exact h.al u g
   · simp at g; subst g
     intro hc;exact h1 (by rw [← hc]; simp [Pw.pr])
 · rw [List.map_append,List.getElem?_append_left (by simp; omega)] at hu;exact h.no j u hj hu
theorem LInv.next (h : LInv a b s0 i 32 t l) : LInv a b s0 (i + 1) 0 t l := ⟨Bfs.next (by rw [ev32_len]; exact h.bfs),h.nd,h.rg,h.al,h.no⟩
theorem LInv.test (h : LInv a b s0 i k i l) {v : Pw} (hv : l[i]? = some v) (hp : pdV a b v.pr = false) : LInv a b s0 i k (i + 1) l :=
 ⟨h.bfs,h.nd,h.rg,h.al,fun j u hj hu => by
  by_cases e : j = i
  · subst e;rw [List.getElem?_map,hv] at hu;cases hu; exact hp
  · exact h.no j u (by omega) hu⟩
theorem LInv.least (ha : a.Right) (hb : b.Right) (h : LInv a b s0 i k i l) {v : Pw} (hv : l[i]? = some v) (hp : pdV a b v.pr = true) : LeastW (LeadsTo (stp2 a b) s0 ev32 (fun q => pdV a b q = true)) v.w :=
 h.bfs.least (dead2_step ha hb) (P := fun q => pdV a b q = true) (fun s hs => by unfold dead2 at hs; subst hs; simp [pdV_dead]) (fun j u hj hu => by rw [h.no j u hj hu]; simp) (show (l.map Pw.pr)[i]? = some v.pr by rw [List.getElem?_map,hv]; rfl) (show (l.map Pw.w)[i]? = some v.w by rw [List.getElem?_map,hv]; rfl) hp
theorem LInv.none_ (ha : a.Right) (hb : b.Right) (h : LInv a b s0 l.length k l.length l) (u : List Int) : ¬ LeadsTo (stp2 a b) s0 ev32 (fun q => pdV a b q = true) u :=
 h.bfs.none_ (dead2_step ha hb) (P := fun q => pdV a b q = true) (fun s hs => by unfold dead2 at hs; subst hs; simp [pdV_dead]) (by simp) (fun j v hv => by
  have hj := (List.getElem?_eq_some_iff.1 hv).1;rw [h.no j v (by simpa using hj) hv]; simp) u
end
theorem stp2_out {a b : Au} (ha : a.Right) (hb : b.Right) (s : Int × Int) (e : Int) (h : ¬ e ∈ unionS a.al b.al) : stp2 a b s e = (-1,-1) := by
 have f : ∀ c : Au,c.Right → ¬ e ∈ c.al → ∀ t,toV (stepOf c.ed) t e = -1 := fun c hc hn t => by
  rw [← hc.next];rcases hc.next_cases t e with g | ⟨_,_,x,hx,_,x2,_⟩
  · exact g
  · obtain ⟨j,hj,hjx⟩ := List.mem_iff_getElem.1 hx;have := (hc.ed j hj x (by rw [List.getElem?_eq_getElem hj,hjx])).2.2.2.2.1;rw [x2] at this;exact absurd this hn
 simp only [stp2];rw [f a ha (fun g => h (mem_unionS.2 (.inl g))),f b hb (fun g => h (mem_unionS.2 (.inr g)))]
theorem fold_dead {a b : Au} (ha : a.Right) (hb : b.Right) : ∀ (w : List Int),w.foldl (stp2 a b) (-1,-1) = (-1,-1)
 | [] => rfl
 | e :: w => by
   rw [List.foldl_cons,dead2_step ha hb (-1,-1) e rfl];exact fold_dead ha hb w
theorem DistW.uniq {a b : Au} {x y : Int} {f g : Bool} {l m : List Int} (h : DistW a b x y f l) (k : DistW a b x y g m) : f = g ∧ l = m := by
 rcases h with ⟨rfl,h⟩ | ⟨rfl,rfl,h⟩
 · rcases k with ⟨rfl,k⟩ | ⟨rfl,rfl,k⟩
   · exact ⟨rfl,h.uniq k⟩
   · exact absurd h.is (k _)
 · rcases k with ⟨rfl,k⟩ | ⟨rfl,rfl,k⟩
   · exact absurd k.is (h _)
   · exact ⟨rfl,rfl⟩
end
def Agree (a b : Au) (x y : Int) (w : List Int) : Prop := (0 ≤ runV a.ed x w ↔ 0 ≤ runV b.ed y w) ∧ (runV a.ed x w ∈ a.mr ↔ runV b.ed y w ∈ b.mr)
theorem Au.Right.run_out {a : Au} (h : a.Right) (w : List Int) {s : Int} (hs : s = -1 ∨ 0 ≤ s) : runV a.ed s w = -1 ∨ 0 ≤ runV a.ed s w := by
 rcases hs with rfl | hs
 · exact .inl (runV_neg _ (by decide) w)
 · exact h.run_cases w s hs
theorem next_dead {a : Au} (h : a.Right) (e : Int) : toV (stepOf a.ed) (-1) e = -1 := by
 have h2 : stp2 a a (-1,-1) e = (-1,-1) := dead2_step h h (-1,-1) e rfl;exact (Prod.mk.inj h2).1
theorem fold2 {a b : Au} (ha : a.Right) (hb : b.Right) : ∀ (w : List Int) (x y : Int),x = -1 ∨ 0 ≤ x → y = -1 ∨ 0 ≤ y → w.foldl (stp2 a b) (x,y) = (runV a.ed x w,runV b.ed y w)
 | [],x,y,_,_ => rfl
 | e :: w,x,y,hx,hy => by
   have f : ∀ c : Au,c.Right → ∀ t,t = -1 ∨ 0 ≤ t → runV c.ed (toV (stepOf c.ed) t e) w = runV c.ed t (e :: w) := fun c hc t ht => by
    rcases ht with rfl | ht
    · rw [next_dead hc e,runV_neg _ (by decide),runV_neg _ (by decide)]
    · rw [runV_cons ht,hc.next]
   have g : ∀ c : Au,c.Right → ∀ t,toV (stepOf c.ed) t e = -1 ∨ 0 ≤ toV (stepOf c.ed) t e := fun c hc t => (hc.to_cases t e).imp id And.left;rw [List.foldl_cons];show w.foldl (stp2 a b) (toV (stepOf a.ed) x e,toV (stepOf b.ed) y e) = _
   rw [fold2 ha hb w _ _ (g a ha x) (g b hb y),f a ha x hx,f b hb y hy]
theorem pd_over {a b : Au} (ha : a.Right) (hb : b.Right) : ∀ (w : List Int) (s : Int × Int),pdV a b (w.foldl (stp2 a b) s) = true → ∀ e,e ∈ w → e ∈ unionS a.al b.al
 | [],s,_,e,he => by cases he
 | x :: r,s,h,e,he => by
   rw [List.foldl_cons] at h;rcases List.mem_cons.1 he with rfl | g
   · by_cases hm : e ∈ unionS a.al b.al
     · exact hm
     · rw [stp2_out ha hb s e hm,fold_dead ha hb,pdV_dead] at h;cases h
   · exact pd_over ha hb r _ h e g
theorem pdV_agree {a b : Au} (ha : a.Right) (hb : b.Right) {r s : Int} (hr : r = -1 ∨ 0 ≤ r) (hs : s = -1 ∨ 0 ≤ s) : pdV a b (r,s) = true ↔ ¬ ((0 ≤ r ↔ 0 ≤ s) ∧ (r ∈ a.mr ↔ s ∈ b.mr)) := by
 have m : ∀ c : Au,c.Right → ¬ (-1 : Int) ∈ c.mr := fun c hc h => by have := hc.mem h; omega
 have ma := m a ha;have mb := m b hb;unfold pdV
 rcases hr with rfl | hr <;> rcases hs with rfl | hs
 · simp [ma,mb]
 · have e : ¬ (((-1 : Int),s) = (-1,-1)) := fun h => by have := (Prod.mk.inj h).2; omega
   rw [if_neg e];simp only [decide_true,Bool.true_or,true_iff];exact fun h => by have := h.1.2 hs; omega
 · have e : ¬ ((r,(-1 : Int)) = (-1,-1)) := fun h => by have := (Prod.mk.inj h).1; omega
   rw [if_neg e];simp only [decide_true,Bool.or_true,Bool.true_or,true_iff];exact fun h => by have := h.1.1 hr; omega
 · have e : ¬ ((r,s) = (-1,-1)) := fun h => by have := (Prod.mk.inj h).1; omega
   rw [if_neg e];have e1 : decide (r = -1) = false := decide_eq_false (by omega);have e2 : decide (s = -1) = false := decide_eq_false (by omega);simp only [e1,e2,Bool.false_or];by_cases h1 : r ∈ a.mr <;> by_cases h2 : s ∈ b.mr <;> simp [h1,h2,hr,hs]
theorem leads_tell {a b : Au} (ha : a.Right) (hb : b.Right) {x y : Int} (hx : x = -1 ∨ 0 ≤ x) (hy : y = -1 ∨ 0 ≤ y) (w : List Int) : LeadsTo (stp2 a b) (x,y) (unionS a.al b.al) (fun q => pdV a b q = true) w ↔ ¬ Agree a b x y w := by
 have h := pdV_agree ha hb (ha.run_out w hx) (hb.run_out w hy);have h2 := fold2 ha hb w x y hx hy;constructor
 · rintro ⟨_,h1⟩;have h1 : pdV a b (w.foldl (stp2 a b) (x,y)) = true := h1;rw [h2] at h1;exact h.1 h1
 · intro h1;have h3 : pdV a b (w.foldl (stp2 a b) (x,y)) = true := by rw [h2]; exact h.2 h1
   exact ⟨pd_over ha hb w _ h3,h3⟩
theorem DistW.cases {a b : Au} (ha : a.Right) (hb : b.Right) {x y : Int} (hx : x = -1 ∨ 0 ≤ x) (hy : y = -1 ∨ 0 ≤ y) {f : Bool} {l : List Int} (h : DistW a b x y f l) : f = true ∧ LeastW (fun w => ¬ Agree a b x y w) l ∨ f = false ∧ l = [] ∧ ∀ u,Agree a b x y u := by
 rcases h with ⟨h1,h2⟩ | ⟨h1,h2,h3⟩
 · exact .inl ⟨h1,h2.congr (fun w => leads_tell ha hb hx hy w)⟩
 · exact .inr ⟨h1,h2,fun u => Classical.byContradiction fun g => h3 u ((leads_tell ha hb hx hy u).2 g)⟩
section
section
variable {a b : Au}
theorem au_eq (h : a.Right) (k : b.Right) (hal : a.al = b.al) (hn : a.n = b.n) (hrn : ∀ w,rn a w = rn b w) (hget0 : ∀ s : Int,0 ≤ s → s < a.n → ∃ w,rn a w = s) (hmk : ∀ w,rn a w ∈ a.mr ↔ rn b w ∈ b.mr) : a = b := by
 have hget : ∀ s : Int,0 ≤ s → s < a.n → ∃ w,rn a w = s ∧ rn b w = s := fun s h0 h1 => by
  obtain ⟨w,hw⟩ := hget0 s h0 h1;exact ⟨w,hw,by rw [← hrn]; exact hw⟩
 have hmr : a.mr = b.mr := by
  refine Rises.ext (R := fun x y : Int => x < y) (fun x => by omega) (fun x y => by omega) h.mr.incr k.mr.incr fun x => ⟨fun hx => ?_,fun hx => ?_⟩
  · obtain ⟨w,e1,e2⟩ := hget x (h.mem hx).1 (h.mem hx).2;rw [← e2];exact (hmk w).1 (by rw [e1]; exact hx)
  · obtain ⟨w,e1,e2⟩ := hget x (k.mem hx).1 (by rw [hn]; exact (k.mem hx).2);rw [← e1];exact (hmk w).2 (by rw [e2]; exact hx)
 have hnx : ∀ s e : Int,0 ≤ s → s < a.n → nextV a.ed s e = nextV b.ed s e := by
  intro s e h0 h1;obtain ⟨w,e1,e2⟩ := hget s h0 h1;have := hrn (w ++ [e]);rw [rn_snoc a w e (by omega),rn_snoc b w e (by omega),e1,e2] at this;exact this
 have edg : ∀ {c : Au},c.Right → ∀ {x : Ed},x ∈ c.ed → nextV c.ed x.src x.ev = x.dst ∧ 0 ≤ x.src ∧ x.src < c.n ∧ 0 ≤ x.dst := by
  intro c hc x hx;obtain ⟨j,hj,hjx⟩ := List.mem_iff_getElem.1 hx;have := hc.ed j hj x (by rw [List.getElem?_eq_getElem hj,hjx]);refine ⟨?_,this.1,this.2.1,this.2.2.1⟩;unfold nextV
  cases hf : c.ed.find? (fun y => decide (y.src = x.src) && decide (y.ev = x.ev)) with
  | none =>
    rw [List.find?_eq_none] at hf;have := hf x hx;simp at this
  | some y =>
    have h1 := List.mem_of_find?_eq_some hf;have h2 := List.find?_some hf;simp only [Bool.and_eq_true,decide_eq_true_eq] at h2;rw [hc.uniq h1 hx h2.1 h2.2];rfl
 have back : ∀ {c d : Au},c.Right → d.Right → (∀ s e : Int,0 ≤ s → s < c.n → nextV c.ed s e = nextV d.ed s e) → ∀ x,x ∈ c.ed → x ∈ d.ed := by
  intro c d hc hd he x hx;obtain ⟨h1,h2,h3,h4⟩ := edg hc hx;rw [he _ _ h2 h3] at h1;rcases hd.next_cases x.src x.ev with g | ⟨_,_,y,hy,y1,y2,y3⟩
  · omega
  · obtain rfl : y = x := by
     obtain ⟨p,q,r⟩ := x;obtain ⟨p',q',r'⟩ := y;simp only at y1 y2 y3 h1
     rw [y1,y2,y3,h1]
    exact hy
 have hed : a.ed = b.ed := by
  refine Rises.ext (R := edLt) (fun x h => by unfold edLt at h; omega) (fun x y h h' => by unfold edLt at h h'; omega) h.rises k.rises fun x => ⟨back h k hnx x,back k h (fun s e h0 h1 => (hnx s e h0 (by rw [hn]; exact h1)).symm) x⟩
 obtain ⟨al,n,mr,ed⟩ := a;obtain ⟨al',n',mr',ed'⟩ := b;simp only at hal hn hmr hed
 rw [hal,hn,hmr,hed]
def AlikG (G L : List Int → Prop) (u v : List Int) : Prop := ∀ x,(G (u ++ x) ↔ G (v ++ x)) ∧ (L (u ++ x) ↔ L (v ++ x))
def FstG (G L : List Int → Prop) (w : List Int) : Prop := G w ∧ ∀ v,G v → AlikG G L v w → sle w v
structure MinG (m : Au) (G L : List Int → Prop) : Prop where
 rt : m.Right
 num : Num m.ed m.n
 gen : ∀ w,0 ≤ rn m w ↔ G w
 mkd : ∀ w,rn m w ∈ m.mr ↔ L w
 ds : ∀ i j : Int,0 ≤ i → i < m.n → 0 ≤ j → j < m.n → Eqv m i j → i = j
theorem MinG.alik {m : Au} {G L : List Int → Prop} (h : MinG m G L) {u v : List Int} (hu : 0 ≤ rn m u) (hv : 0 ≤ rn m v) : rn m u = rn m v ↔ AlikG G L u v := by
 constructor
 · intro e x;rw [← h.gen,← h.gen,← h.mkd,← h.mkd,rn_app,rn_app,e];exact ⟨Iff.rfl,Iff.rfl⟩
 · intro e;rcases h.rt.rn_cases u with k | k
   · omega
   rcases h.rt.rn_cases v with k' | k'
   · omega
   refine h.ds _ _ k.1 k.2 k'.1 k'.2 fun w => ?_;have := e w;rw [← h.gen,← h.gen,← h.mkd,← h.mkd,rn_app,rn_app] at this;exact this
theorem MinG.fst {m : Au} {G L : List Int → Prop} (h : MinG m G L) {ws : List (List Int)} (hl : ws.length = m.n.toNat) (hw : ∀ (i : Nat) (w : List Int),ws[i]? = some w → LeastW (fun v => rn m v = (i : Int)) w) (w : List Int) : w ∈ ws ↔ FstG G L w := by
 constructor
 · intro hm;obtain ⟨i,hi,rfl⟩ := List.mem_iff_getElem.1 hm;have k := hw i _ (List.getElem?_eq_getElem hi);have h0 : 0 ≤ rn m ws[i] := by rw [k.is]; omega
   refine ⟨(h.gen _).1 h0,fun v hv ha => k.le v ?_⟩;rw [← k.is];exact (h.alik ((h.gen v).2 hv) h0).2 ha
 · rintro ⟨hv,hle⟩;have h0 := (h.gen w).2 hv;rcases h.rt.rn_cases w with k | k
   · omega
   obtain ⟨i,hi⟩ := Int.eq_ofNat_of_zero_le k.1;have hil : i < ws.length := by omega
   have g := hw i _ (List.getElem?_eq_getElem hil);have h1 : 0 ≤ rn m ws[i] := by rw [g.is]; omega
   have e1 : sle w ws[i] := hle _ ((h.gen _).1 h1) ((h.alik h1 h0).1 (by rw [g.is,hi]));have e2 : sle ws[i] w := g.le w hi;rw [e1.antisymm e2];exact List.getElem_mem _
theorem MinG.uniq {G L : List Int → Prop} (h : MinG a G L) (k : MinG b G L) (hal : a.al = b.al) : a = b := by
 obtain ⟨wa,la,asa,ha⟩ := h.num.ws h.rt;obtain ⟨wb,lb,asb,hb⟩ := k.num.ws k.rt;obtain rfl : wa = wb := Rises.ext slt.irrefl (fun _ _ h => slt.asymm h) asa asb fun w => (h.fst la ha w).trans (k.fst lb hb w).symm
 have hn : a.n = b.n := by have := h.rt.n0; have := k.rt.n0; omega
 have hrn : ∀ w,rn a w = rn b w := by
  intro w;rcases h.rt.rn_cases w with g | g
  · rcases k.rt.rn_cases w with g' | g'
    · rw [g,g']
    · have := (h.gen w).2 ((k.gen w).1 g'.1); omega
  · obtain ⟨i,hi⟩ := Int.eq_ofNat_of_zero_le g.1;have hil : i < wa.length := by omega
    have e1 := ha i _ (List.getElem?_eq_getElem hil);have e2 := hb i _ (List.getElem?_eq_getElem hil);have h1 : 0 ≤ rn a wa[i] := by rw [e1.is]; omega
    have h2 : 0 ≤ rn b wa[i] := by rw [e2.is]; omega
    have h3 := (k.gen w).2 ((h.gen w).1 g.1);have := (k.alik h3 h2).2 ((h.alik g.1 h1).1 (by rw [hi,e1.is]));rw [hi,this,e2.is]
 refine au_eq h.rt k.rt hal hn hrn (fun s h0 h1 => ?_) (fun w => (h.mkd w).trans (k.mkd w).symm);obtain ⟨i,rfl⟩ := Int.eq_ofNat_of_zero_le h0;have hil : i < wa.length := by omega
 exact ⟨_,(ha i _ (List.getElem?_eq_getElem hil)).is⟩
theorem Mini.g {m : Au} (h : Mini a m) : MinG m (fun w => 0 ≤ rn a w) (fun w => rn a w ∈ a.mr) := ⟨h.rt,h.num,h.gen,h.mkd,h.ds⟩
theorem MinG.congr {m : Au} {G L G' L' : List Int → Prop} (h : MinG m G L) (e1 : ∀ w,G w ↔ G' w) (e2 : ∀ w,L w ↔ L' w) : MinG m G' L' := ⟨h.rt,h.num,fun w => (h.gen w).trans (e1 w),fun w => (h.mkd w).trans (e2 w),h.ds⟩
theorem Mini.eq_iff {x y : Au} (ha : a.Right) (hb : b.Right) (hx : Mini a x) (hy : Mini b y) (hal : a.al = b.al) : x = y ↔ ∀ w,Agree a b a.st b.st w := by
 constructor
 · rintro rfl w;exact ⟨(hx.gen w).symm.trans (hy.gen w),(hx.mkd w).symm.trans (hy.mkd w)⟩
 · intro h;exact MinG.uniq hx.g (hy.g.congr (fun w => (h w).1.symm) (fun w => (h w).2.symm)) (by rw [hx.al,hy.al,hal])
end
def swV (p q i : Int) : Int := if i = p then q else if i = q then p else i
theorem swV_swV (p q i : Int) : swV p q (swV p q i) = i := by unfold swV; split <;> split <;> (try split) <;> omega
theorem swV_rg {p q n i : Int} (hp : 0 ≤ p ∧ p < n) (hq : 0 ≤ q ∧ q < n) : (0 ≤ swV p q i ∧ swV p q i < n) ↔ (0 ≤ i ∧ i < n) := by unfold swV; split <;> (try split) <;> omega
theorem swV_neg {p q i : Int} (hp : 0 ≤ p) (hq : 0 ≤ q) (hi : i < 0) : swV p q i = i := by unfold swV; split <;> (try split) <;> omega
def exMi (a : Au) (p q : Int) (i : Nat) (l : List Int) : List Int := (l.filter fun m => decide (m = swV p q i)).map fun _ => (i : Int)
def exM (a : Au) (p q : Int) (k : Nat) : List Int := (List.range k).flatMap fun i => exMi a p q i a.mr
def exEi (p q : Int) (i : Nat) (l : List Ed) : List Ed := (l.filter fun y => decide (y.src = swV p q i)).map fun y => ⟨i,y.ev,swV p q y.dst⟩
def exE (a : Au) (p q : Int) (k : Nat) : List Ed := (List.range k).flatMap fun i => exEi p q i a.ed
def swA (a : Au) (p q : Int) : Au := ⟨a.al,a.n,exM a p q a.n.toNat,exE a p q a.n.toNat⟩
theorem exM_next (a : Au) (p q : Int) (k : Nat) : exM a p q (k + 1) = exM a p q k ++ exMi a p q k a.mr := by simp [exM,List.range_succ,List.flatMap_append]
theorem exE_next (a : Au) (p q : Int) (k : Nat) : exE a p q (k + 1) = exE a p q k ++ exEi p q k a.ed := by simp [exE,List.range_succ,List.flatMap_append]
theorem exMi_snoc (a : Au) (p q : Int) (i : Nat) (l : List Int) (m : Int) : exMi a p q i (l ++ [m]) = if m = swV p q i then exMi a p q i l ++ [(i : Int)] else exMi a p q i l := by
 unfold exMi
 rw [List.filter_append];by_cases h : m = swV p q i <;> simp [h]
theorem exEi_snoc (p q : Int) (i : Nat) (l : List Ed) (y : Ed) : exEi p q i (l ++ [y]) = if y.src = swV p q i then exEi p q i l ++ [⟨i,y.ev,swV p q y.dst⟩] else exEi p q i l := by
 unfold exEi
 rw [List.filter_append];by_cases h : y.src = swV p q i <;> simp [h]
theorem mem_exM {a : Au} {p q x : Int} {k : Nat} : x ∈ exM a p q k ↔ 0 ≤ x ∧ x < k ∧ swV p q x ∈ a.mr := by
 unfold exM exMi
 simp only [List.mem_flatMap,List.mem_range,List.mem_map,List.mem_filter,decide_eq_true_eq];constructor
 · rintro ⟨i,hi,m,⟨hm,rfl⟩,rfl⟩;exact ⟨by omega,by omega,hm⟩
 · rintro ⟨h0,h1,h2⟩;obtain ⟨i,rfl⟩ := Int.eq_ofNat_of_zero_le h0;exact ⟨i,by omega,_,⟨h2,rfl⟩,rfl⟩
theorem mem_exE {a : Au} {p q : Int} {k : Nat} {x : Ed} : x ∈ exE a p q k ↔ 0 ≤ x.src ∧ x.src < k ∧ ∃ y,y ∈ a.ed ∧ y.src = swV p q x.src ∧ y.ev = x.ev ∧ x.dst = swV p q y.dst := by
 unfold exE exEi
 simp only [List.mem_flatMap,List.mem_range,List.mem_map,List.mem_filter,decide_eq_true_eq];constructor
 · rintro ⟨i,hi,y,⟨hy,hs⟩,rfl⟩;exact ⟨by dsimp only; omega,by dsimp only; omega,y,hy,hs,rfl,rfl⟩
 · rintro ⟨h0,h1,y,hy,e1,e2,e3⟩;obtain ⟨i,hi⟩ := Int.eq_ofNat_of_zero_le h0;obtain ⟨xs,xe,xd⟩ := x;dsimp only at hi h1 e1 e2 e3;subst hi e2 e3;exact ⟨i,by omega,y,⟨hy,e1⟩,rfl⟩
theorem rises_pw {α : Type} {R : α → α → Prop} {l : List α} (h : Rises R l) : l.Pairwise R := List.pairwise_iff_getElem.2 fun i j hi hj hij => h i j _ _ hij (List.getElem?_eq_getElem hi) (List.getElem?_eq_getElem hj)
theorem pw_rises {α : Type} {R : α → α → Prop} {l : List α} (h : l.Pairwise R) : Rises R l := fun i j u v hij hu hv => by
 obtain ⟨h1,rfl⟩ := List.getElem?_eq_some_iff.1 hu;obtain ⟨h2,rfl⟩ := List.getElem?_eq_some_iff.1 hv;exact List.pairwise_iff_getElem.1 h i j h1 h2 hij
theorem pw_snoc {α : Type} {R : α → α → Prop} {l m : List α} (h : l.Pairwise R) (k : m.Pairwise R) (x : ∀ a b,a ∈ l → b ∈ m → R a b) : (l ++ m).Pairwise R := List.pairwise_append.2 ⟨h,k,fun a ha b hb => x a b ha hb⟩
theorem exM_rises {a : Au} (hr : a.Right) (p q : Int) : ∀ k,(exM a p q k).Pairwise (· < ·)
 | 0 => by simp [exM]
 | k + 1 => by
   rw [exM_next];refine pw_snoc (exM_rises hr p q k) ?_ fun x y hx hy => ?_
   · unfold exMi
     have hn : (a.mr.filter fun m => decide (m = swV p q k)).length ≤ 1 := by
      have hp : (a.mr.filter fun m => decide (m = swV p q k)).Pairwise (· < ·) := List.Pairwise.filter _ (hr.mr.incr.pw);match h : (a.mr.filter fun m => decide (m = swV p q k)) with
      | [] => simp
      | [x] => simp
      | x :: y :: r =>
        rw [h] at hp;have h1 : x < y := (List.pairwise_cons.1 hp).1 y (by simp);have hx : x ∈ a.mr.filter fun m => decide (m = swV p q k) := by rw [h]; simp
        have hy : y ∈ a.mr.filter fun m => decide (m = swV p q k) := by rw [h]; simp
        simp only [List.mem_filter,decide_eq_true_eq] at hx hy;omega
     match hm : (a.mr.filter fun m => decide (m = swV p q k)),hn with
     | [],_ => simp
     | [x],_ => simp
   · have h1 := mem_exM.1 hx;unfold exMi at hy
     obtain ⟨m,_,rfl⟩ := List.mem_map.1 hy;omega
theorem exE_rises {a : Au} (hr : a.Right) (p q : Int) : ∀ k,(exE a p q k).Pairwise edLt
 | 0 => by simp [exE]
 | k + 1 => by
   rw [exE_next];refine pw_snoc (exE_rises hr p q k) ?_ fun x y hx hy => ?_
   · unfold exEi
     refine List.pairwise_map.2 ?_;have hp : (a.ed.filter fun y => decide (y.src = swV p q k)).Pairwise edLt := List.Pairwise.filter _ (rises_pw hr.rises);refine hp.imp_of_mem fun {u v} hu hv h => ?_;simp only [List.mem_filter,decide_eq_true_eq] at hu hv;unfold edLt at h ⊢
     dsimp only
     omega
   · have h1 := mem_exE.1 hx;unfold exEi at hy
     obtain ⟨m,_,rfl⟩ := List.mem_map.1 hy;unfold edLt
     dsimp only
     omega
section
variable {a : Au} {p q : Int}
theorem swA_right (hr : a.Right) (hp : 0 ≤ p ∧ p < a.n) (hq : 0 ≤ q ∧ q < a.n) : (swA a p q).Right := by
 have n0 := hr.n0;refine ⟨hr.al,n0,hr.n1,?_,fun i hi x hx => ?_⟩
 · refine incr.setOk (l := exM a p q a.n.toNat) (fun i j x y hij hx hy => pw_rises (exM_rises hr p q _) i j x y hij hx hy) fun x hx => ?_;have := mem_exM.1 hx;show 0 ≤ x ∧ x < a.n
   omega
 · have hm : x ∈ exE a p q a.n.toNat := List.mem_of_getElem? hx;obtain ⟨h0,h1,y,hy,e1,e2,e3⟩ := mem_exE.1 hm;obtain ⟨j,hj,rfl⟩ := List.mem_iff_getElem.1 hy;obtain ⟨g1,g2,g3,g4,g5,_⟩ := hr.ed j hj _ (List.getElem?_eq_getElem hj);have hd := (swV_rg (i := a.ed[j].dst) hp hq).2 ⟨g3,g4⟩;refine ⟨h0,by show x.src < a.n; omega,by rw [e3]; exact hd.1,by rw [e3]; exact hd.2,by rw [← e2]; exact g5,fun z hz hzx => ?_⟩;have := pw_rises (exE_rises hr p q a.n.toNat) (i - 1) i z x (by omega) hzx hx;unfold edLt at this
   exact this
theorem edge_nx {c : Au} (hc : c.Right) {x : Ed} (hx : x ∈ c.ed) : nextV c.ed x.src x.ev = x.dst := by
 unfold nextV
 cases hf : c.ed.find? (fun y => decide (y.src = x.src) && decide (y.ev = x.ev)) with
 | none =>
   rw [List.find?_eq_none] at hf;have := hf x hx;simp at this
 | some y =>
   have h1 := List.mem_of_find?_eq_some hf;have h2 := List.find?_some hf;simp only [Bool.and_eq_true,decide_eq_true_eq] at h2;rw [hc.uniq h1 hx h2.1 h2.2];rfl
theorem swA_next (hr : a.Right) (hp : 0 ≤ p ∧ p < a.n) (hq : 0 ≤ q ∧ q < a.n) {s : Int} (hs : 0 ≤ s ∧ s < a.n) (e : Int) : nextV (swA a p q).ed (swV p q s) e = swV p q (nextV a.ed s e) := by
 have hR := swA_right hr hp hq;have hm1 : swV p q (-1) = -1 := swV_neg hp.1 hq.1 (by decide);rcases hr.next_cases s e with g | ⟨g0,g1,x,hx,x1,x2,x3⟩
 · rw [g,hm1];rcases hR.next_cases (swV p q s) e with k | ⟨k0,k1,y,hy,y1,y2,y3⟩
   · exact k
   · exfalso
     obtain ⟨_,_,z,hz,e1,e2,e3⟩ := mem_exE.1 (show y ∈ exE a p q a.n.toNat from hy);rw [y1,swV_swV] at e1;rw [y2] at e2;have h3 := edge_nx hr hz;obtain ⟨j,hj,rfl⟩ := List.mem_iff_getElem.1 hz;obtain ⟨_,_,g3,_⟩ := hr.ed j hj _ (List.getElem?_eq_getElem hj);rw [e1,e2,g] at h3;omega
 · have hm : (⟨swV p q s,e,swV p q x.dst⟩ : Ed) ∈ (swA a p q).ed := by
    have hs2 := (swV_rg (i := s) hp hq).2 hs;exact mem_exE.2 ⟨hs2.1,by show swV p q s < _; omega,x,hx,by rw [swV_swV]; exact x1,x2,rfl⟩
   have := edge_nx hR hm;dsimp only at this;rw [this,x3]
theorem swA_run (hr : a.Right) (hp : 0 ≤ p ∧ p < a.n) (hq : 0 ≤ q ∧ q < a.n) : ∀ (w : List Int) (s : Int),s = -1 ∨ 0 ≤ s ∧ s < a.n → runV (swA a p q).ed (swV p q s) w = swV p q (runV a.ed s w)
 | [],s,_ => rfl
 | e :: w,s,hs => by
   rcases hs with rfl | hs
   · have hm1 : swV p q (-1) = -1 := swV_neg hp.1 hq.1 (by decide);rw [hm1,runV_neg _ (by decide),runV_neg _ (by decide),hm1]
   · have h2 := (swV_rg (i := s) hp hq).2 hs;rw [runV_cons h2.1,runV_cons hs.1,swA_next hr hp hq hs e];refine swA_run hr hp hq w _ ?_;rcases hr.next_cases s e with g | ⟨g0,g1,_⟩
     · exact .inl g
     · exact .inr ⟨g0,g1⟩
theorem swA_agree (hr : a.Right) (hp : 1 ≤ p ∧ p < a.n) (hq : 1 ≤ q ∧ q < a.n) (w : List Int) : Agree a (swA a p q) a.st (swA a p q).st w := by
 have hp0 : 0 ≤ p ∧ p < a.n := ⟨by omega,hp.2⟩;have hq0 : 0 ≤ q ∧ q < a.n := ⟨by omega,hq.2⟩;have e0 : a.st = 0 := if_neg (by omega);have e1 : (swA a p q).st = 0 := if_neg (by show ¬ a.n = 0; omega);have h0 : swV p q 0 = 0 := by unfold swV; split <;> (try split) <;> omega
 have hrun := swA_run hr hp0 hq0 w 0 (.inr ⟨Int.le_refl _,by omega⟩);rw [h0] at hrun;unfold Agree
 rw [e0,e1,hrun];have hc := hr.rn_cases w;unfold rn at hc
 rw [e0] at hc;rcases hc with g | g
 · have hm1 : swV p q (-1) = -1 := swV_neg hp0.1 hq0.1 (by decide);rw [g,hm1];refine ⟨Iff.rfl,⟨fun h => ?_,fun h => ?_⟩⟩
   · have := hr.mem h; omega
   · have := (mem_exM.1 (show (-1 : Int) ∈ exM a p q a.n.toNat from h)).1; omega
 · have g2 := (swV_rg hp0 hq0).2 g;refine ⟨⟨fun _ => g2.1,fun _ => g.1⟩,⟨fun h => ?_,fun h => ?_⟩⟩
   · exact mem_exM.2 ⟨g2.1,by omega,by rw [swV_swV]; exact h⟩
   · have := (mem_exM.1 (show swV p q (runV a.ed 0 w) ∈ exM a p q a.n.toNat from h)).2.2;rwa [swV_swV] at this
end
end
def Ent.and (e f : Ent) : Ent where
 foot := e.foot ++ f.foot
 ok w := e.ok w ∧ f.ok w
 lt w h g hg := (List.mem_append.1 hg).elim (e.lt w h.1 g) (f.lt w h.2 g)
 turn w w' h hg := ⟨e.turn w w' h.1 fun g k => hg g (List.mem_append_left _ k),f.turn w w' h.2 fun g k => hg g (List.mem_append_right _ k)⟩
theorem Sep.join {n : Nat} {w0 w : World} {e f : Ent} {es : List Ent} (S : Sep n w0 (e :: f :: es) w) : Sep n w0 (e.and f :: es) w := by
 have ap := S.ap;rw [List.pairwise_cons,List.pairwise_cons] at ap;refine ⟨S.fro,fun x hx => ?_,fun x hx => ?_,List.pairwise_cons.2 ⟨fun x hx g hg => ?_,ap.2.2⟩⟩
 · rcases List.mem_cons.1 hx with rfl | hx
   · exact ⟨S.ok e (by simp),S.ok f (by simp)⟩
   · exact S.ok x (by simp [hx])
 · rcases List.mem_cons.1 hx with rfl | hx
   · exact fun g hg => (List.mem_append.1 hg).elim (S.ge e (by simp) g) (S.ge f (by simp) g)
   · exact S.ge x (by simp [hx])
 · rcases List.mem_append.1 hg with h | h
   · exact ap.1 x (by simp [hx]) g h
   · exact ap.2.1 x hx g h

structure PrV where
 x : Int
 y : Int
 A : Option Addr
 n : Nat
 c : Nat
def PrV.cells (p : PrV) : List Value := [.int .i64 p.x,.int .i64 p.y,.slice p.A p.n p.c]
def WdAt (fs : List Nat) (w : World) (r : PrV) (wd : List Int) : Prop := r.n = wd.length ∧ ((r.A = none ∧ wd = [] ∧ r.c = 0) ∨ ∃ g,r.A = some ⟨g,0,none⟩ ∧ g ∈ fs ∧ ∀ j x,wd[j]? = some x → w.cell? ⟨g,j,none⟩ = some (.int .i64 x))
def eWds (fs : List Nat) (raw : List PrV) (l : List Pw) : Ent where
 foot := fs
 ok w := raw.length = l.length ∧ (∀ g,g ∈ fs → g < w.heap.size) ∧ ∀ (i : Nat) (r : PrV) (p : Pw),raw[i]? = some r → l[i]? = some p → r.x = p.x ∧ r.y = p.y ∧ WdAt fs w r p.w
 lt w h := h.2.1
 turn w w' h hg := by
  refine ⟨h.1,fun g hk => ?_,fun i r p hr hp => ?_⟩
  · have h1 := hg g hk;have h2 := h.2.1 g hk;rw [Array.getElem?_eq_getElem h2] at h1;exact (Array.getElem?_eq_some_iff.1 h1).1
  · obtain ⟨h1,h2,h3,h4⟩ := h.2.2 i r p hr hp;refine ⟨h1,h2,h3,h4.imp id fun ⟨g,e,hm,hc⟩ => ⟨g,e,hm,fun j x hx => ?_⟩⟩;exact (World.cell?_of_block (a := ⟨g,_,none⟩) (hg g hm)).trans (hc j x hx)
theorem WdAt.ints {fs : List Nat} {w : World} {r : PrV} {wd : List Int} (h : WdAt fs w r wd) (hfs : ∀ g,g ∈ fs → g < w.heap.size) : IntsAt w r.A wd := by
 intro hne;rcases h.2 with ⟨_,h2,_⟩ | ⟨g,hA,hm,hc⟩
 · exact absurd h2 hne
 · refine ⟨g,0,hA,hfs g hm,fun i x hx => ⟨[.int .i64 x],rfl,rfl,fun j v hj => ?_⟩⟩;cases j with
   | zero => simp at hj; subst hj; simpa using hc i x hx
   | succ j => simp at hj
section

theorem count_set_true : ∀ (l : List Bool) (i : Nat),l[i]? = some false → (l.set i true).count false + 1 = l.count false
 | [],i,h => by simp at h
 | b :: l,0,h => by
   simp at h; subst h; simp
 | b :: l,i + 1,h => by
   have := count_set_true l i (by simpa using h);simp only [List.set_cons_succ,List.count_cons];omega
theorem getD_false_some {l : Array Bool} {i : Nat} (h : l.getD i true = false) : l.toList[i]? = some false := by
 rcases Nat.lt_or_ge i l.size with h' | h'
 · simp [h'] at h ⊢; exact h
 · simp [Array.getElem?_eq_none h'] at h

section
variable {P : Program} {ops : Array Oper} {Q : Exit → Act → World → Prop} {md : Region.Mode} {S : World → Prop} {INV : Array Bool → Act → World → Prop} {D : List (List Nat)}

def depsOk (md : Region.Mode) (ops : Array Oper) (D : List (List Nat)) : Bool :=
 (List.range ops.size).all fun i => ((ops[i]?).map fun o => (o.after.all fun e => decide (e.on < i)) && ((D.getD i []).all fun d => o.after.any fun e => e.on == d && Region.binds md e)).getD false
theorem depsOk_at (h : depsOk md ops D = true) {i : Nat} {o : Oper} (ho : ops[i]? = some o) : (∀ e ∈ o.after,e.on < i) ∧ ∀ d ∈ D.getD i [],∃ e ∈ o.after,e.on = d ∧ Region.binds md e = true := by
 have hi : i < ops.size := (Array.getElem?_eq_some_iff.1 ho).1;have h1 := List.all_eq_true.1 h i (List.mem_range.2 hi);rw [ho] at h1;simp only [Option.map_some,Option.getD_some,Bool.and_eq_true] at h1;refine ⟨fun e he => ?_,fun d hd => ?_⟩
 · have := Array.all_eq_true'.1 h1.1 e he;simpa using this
 · have := List.all_eq_true.1 h1.2 d hd;obtain ⟨e,he,h2⟩ := Array.any_eq_true'.1 this;simp only [Bool.and_eq_true,beq_iff_eq] at h2;exact ⟨e,he,h2⟩
theorem ready_none (h : depsOk md ops D = true) {l : Array Bool} (hr : Region.ready md ops l = []) : ∀ i,i < ops.size → l.getD i true = true := by
 intro i;induction i using Nat.strongRecOn with
 | _ i ih =>
   intro hi;obtain ⟨o,ho⟩ : ∃ o,ops[i]? = some o := ⟨_,Array.getElem?_eq_getElem hi⟩;cases hl : l.getD i true
   · exfalso
     have : i ∈ Region.ready md ops l := mem_ready.2 ⟨hl,o,ho,fun e he hb => by
      have h1 := (depsOk_at h ho).1 e he;have h2 := ih e.on h1 (by omega);have : e.on < l.size := by
       rcases Nat.lt_or_ge i l.size with h' | h'
       · omega
       · simp [Array.getElem?_eq_none h'] at hl
      have h3 : l.getD e.on true = l.getD e.on false := by simp [this]
      rw [← h3]; exact h2⟩
     rw [hr] at this;cases this
   · rfl
def StepI (P : Program) (ops : Array Oper) (Q : Exit → Act → World → Prop) (INV : Array Bool → Act → World → Prop) (D : List (List Nat)) (i : Nat) : Prop :=
 ∀ l a w,INV l a w → l.getD i true = false → (∀ d,d ∈ D.getD i [] → l.getD d false = true) → wpOp P ops Q i (INV (l.setIfInBounds i true)) a w
def StepsI (P : Program) (ops : Array Oper) (Q : Exit → Act → World → Prop) (INV : Array Bool → Act → World → Prop) (D : List (List Nat)) (rs : List Nat) : Prop := ∀ i ∈ rs,StepI P ops Q INV D i
theorem StepsI.nil : StepsI P ops Q INV D [] := fun _ h => by cases h
theorem StepsI.cons {i : Nat} {o : Oper} {rs : List Nat} (ho : ops[i]? = some o)
 (h : ∀ l a w,INV l a w → l.getD i true = false → (∀ d,d ∈ D.getD i [] → l.getD d false = true) → ∀ K' : Act → World → Prop,Hid (∀ a w,INV (l.setIfInBounds i true) a w → K' a w) → if Region.wanted o (yielded ops a.tmps) = true then Oper.wp P o a w K' Q else K' (a.put o.dst undef) w)
 (hs : StepsI P ops Q INV D rs) : StepsI P ops Q INV D (i :: rs) := fun j hj => by
 rcases List.mem_cons.1 hj with rfl | hj
 · exact fun l a w hI hl hd => wpOp_step ho (fun K' hK => h l a w hI hl hd K' hK)
 · exact hs j hj
theorem wpAnyH_inv (rs : List Nat) (hd : depsOk md ops D = true) (hS : ∀ l a w,INV l a w → S w) (hrs : ∀ l a w,INV l a w → ((List.range ops.size).all fun i => rs.contains i || l.getD i true) = true)
 (hfin : ∀ l a w,INV l a w → (∀ i,i < ops.size → l.getD i true = true) → Q .normal a w) (hstep : StepsI P ops Q INV D rs) :
 ∀ (fuel : Nat) (l : Array Bool) (a : Act) (w : World),l.toList.count false ≤ fuel → INV l a w → wpAnyH P md ops Q S fuel l a w := by
 intro fuel;induction fuel with
 | zero =>
   intro l a w hc hI;have none_ : Region.ready md ops l = [] := by
    rw [List.eq_nil_iff_forall_not_mem];intro i hi;have h1 := getD_false_some (mem_ready.1 hi).1;have h2 := List.count_pos_iff.2 (List.mem_of_getElem? h1);omega
   exact ⟨none_,hfin l a w hI (ready_none hd none_)⟩
 | succ fuel ih =>
   intro l a w hc hI;refine ⟨fun hr => hfin l a w hI (ready_none hd hr),fun i hi => ?_⟩;obtain ⟨hl,o,ho,hall⟩ := mem_ready.1 hi;have hilt : i < ops.size := (Array.getElem?_eq_some_iff.1 ho).1;have hmem : i ∈ rs := by
    have := List.all_eq_true.1 (hrs l a w hI) i (List.mem_range.2 hilt);rw [hl,Bool.or_false] at this;simpa using this
   refine wpOp_mono (fun a' w' h => ⟨hS _ _ _ h,ih _ a' w' ?_ h⟩) (hstep i hmem l a w hI hl fun d hdm => ?_)
   · have := count_set_true l.toList i (getD_false_some hl);rw [Array.toList_setIfInBounds];omega
   · obtain ⟨e,he,h1,h2⟩ := (depsOk_at hd ho).2 d hdm;rw [← h1]; exact hall e he h2
end

theorem act_name {P : Program} {ops : Array Oper} {Q : Exit → Act → World → Prop} {md : Region.Mode} {S : World → Prop} {fuel : Nat} {l : Array Bool} {a : Act} {w : World} (h : ∀ A0,A0 = a → wpAnyH P md ops Q S fuel l A0 w) : wpAnyH P md ops Q S fuel l a w := h a rfl
def eNo : Ent where
 foot := []
 ok _ := True
 lt w h g hg := by cases hg
 turn w w' h hg := trivial
section
variable {n : Nat} {w0 w w' : World} {es : List Ent}
theorem Sep.no (S : Sep n w0 es w) : Sep n w0 (eNo :: es) w := S.new1 (Below.refl _ _) eNo trivial (by simp [eNo])
theorem Sep.fill (S : Sep n w0 es w) (i : Nat) (hi : es[i]? = some eNo) (hb : Below w.heap.size w w') (e : Ent) (he : e.ok w') (hf : ∀ g,g ∈ e.foot → w.heap.size ≤ g) : Sep n w0 (es.set i e) w' :=
 S.chg i hi e (Off.below hb _) he (fun g hg => .inr (hf g hg))
theorem Sep.fillAlloc (S : Sep n w0 es w) (i : Nat) (hi : es[i]? = some eNo) (T : TypeId) (cs : List Value) {o : Obj} (ho : o = .cells cs.toArray T) {g : Nat} (hg : g = w.heap.size) : Sep n w0 (es.set i (eBlk g T cs)) (w.alloc o) := by
 subst ho; subst hg;exact S.fill i hi (Below.new w _) _ (BlkAt.new w T cs) (by simp [eBlk])
theorem Sep.fill1 (S : Sep n w0 es w) (i : Nat) (hi : es[i]? = some eNo) {e : Ent} (T : Sep w.heap.size w [e] w') : Sep n w0 (es.set i e) w' :=
 S.fill i hi T.fro.b e (T.ok e (by simp)) (fun g hg => T.ge e (by simp) g hg)
end
end
def eBox (t : Nat) (a : Au) (p : AuP) : Ent := (eBlk t 25 [.slice p.A1 a.al.length p.c1,.int .i64 a.n,.slice p.A2 a.mr.length p.c2,.slice p.A3 a.ed.length p.c3]).and ((eInts a.al (.slice p.A1 a.al.length p.c1)).and ((eInts a.mr (.slice p.A2 a.mr.length p.c2)).and (eEds a.ed (.slice p.A3 a.ed.length p.c3))))
theorem Sep.box {n : Nat} {w0 w : World} {t : Nat} {a : Au} {p : AuP} {es : List Ent} (S : Sep n w0 (eBlk t 25 [.slice p.A1 a.al.length p.c1,.int .i64 a.n,.slice p.A2 a.mr.length p.c2,.slice p.A3 a.ed.length p.c3] :: eInts a.al (.slice p.A1 a.al.length p.c1) :: eInts a.mr (.slice p.A2 a.mr.length p.c2) :: eEds a.ed (.slice p.A3 a.ed.length p.c3) :: es) w) : Sep n w0 (eBox t a p :: es) w := by
 have ap := S.ap;simp only [List.pairwise_cons] at ap;refine ⟨S.fro,fun x hx => ?_,fun x hx => ?_,List.pairwise_cons.2 ⟨fun x hx g hg => ?_,ap.2.2.2.2⟩⟩
 · rcases List.mem_cons.1 hx with rfl | hx
   · exact ⟨S.ok _ (by simp),S.ok _ (by simp),S.ok _ (by simp),S.ok _ (by simp)⟩
   · exact S.ok x (by simp [hx])
 · rcases List.mem_cons.1 hx with rfl | hx
   · intro g hg;rcases List.mem_append.1 hg with h | h
     · exact S.ge _ (by simp) g h
     rcases List.mem_append.1 h with h | h
     · exact S.ge (eInts a.al (.slice p.A1 a.al.length p.c1)) (by simp) g h
     rcases List.mem_append.1 h with h | h
     · exact S.ge (eInts a.mr (.slice p.A2 a.mr.length p.c2)) (by simp) g h
     · exact S.ge (eEds a.ed (.slice p.A3 a.ed.length p.c3)) (by simp) g h
   · exact S.ge x (by simp [hx])
 · rcases List.mem_append.1 hg with h | h
   · exact ap.1 x (by simp [hx]) g h
   rcases List.mem_append.1 h with h | h
   · exact ap.2.1 x (by simp [hx]) g h
   rcases List.mem_append.1 h with h | h
   · exact ap.2.2.1 x (by simp [hx]) g h
   · exact ap.2.2.2.1 x hx g h
theorem eBox.at {t : Nat} {a : Au} {p : AuP} {w : World} (h : (eBox t a p).ok w) (hl : Lens a) : Au.At w a p :=
 ⟨OwnI.ints h.2.1,OwnI.ints h.2.2.1,Own.reads (enc := Ed.cells) (k := 3) (T := 70) (B := 0) (fun _ => rfl) h.2.2.2,hl.1,hl.2.1,hl.2.2⟩
theorem eBox.caps {t : Nat} {a : Au} {p : AuP} {w : World} (h : (eBox t a p).ok w) : Caps a p := ⟨Own.cap h.2.1,Own.cap h.2.2.1,Own.cap h.2.2.2⟩
theorem BlkAt.rng {b o T : Nat} {l cs : List Value} {w : World} (h : BlkAt w b T l) (hs : ∀ (j : Nat) v,cs[j]? = some v → l[o + j]? = some v) : w.rangeAt b o cs := fun j v hv => (h.cell (o + j)).trans (hs j v hv)
theorem Sm4.cells_len {d : Sm4} (h : d.Ok) : d.cells.length = 26 := by simp [Sm4.cells,h.l]
theorem Sm4.info {d : Sm4} (h : d.Ok) : (Try.prog.info? 46).map (·.size) = some d.cells.length := by rw [Sm4.cells_len h]; kernel_rfl
theorem DistW.of {a : Au} {x y r : Int} {f : Bool} {l : List Int} (ha : a.Right) (hi : InSt a x y) (h : (r ≠ 0 ∧ l = [] ∧ f = false ∧ (ChkErr a r ∨ a.Right ∧ r = 2 ∧ ¬ InSt a x y)) ∨ (r = 0 ∧ a.Right ∧ InSt a x y ∧ DistW a a x y f l)) : r = 0 ∧ DistW a a x y f l := by
 rcases h with ⟨h1,_,_,h | ⟨_,_,h⟩⟩ | ⟨h1,_,_,h⟩
 · exact absurd (h.uniq (ChkErr.of_right ha)) h1
 · exact absurd hi h
 · exact ⟨h1,h⟩
section
attribute [local go_sem] Oper.semAt_some

def lookV (s : Bool) (raw : List PrV) (x y : Int) (u : Nat) : Bool := s || (raw.take u).any fun r => r.x == x && r.y == y
def GivesL8 (a b : Au) (x y : Int) (w : World) (e : Ending) (w' : World) : Prop := ∃ (A : Option Addr) (c : Nat) (l : List Int) (f : Bool),e = .returned (.tuple #[.slice A l.length c,.bool f]) ∧ Hid (IntsAt w' A l) ∧ Below w.heap.size w w' ∧ Hid (DistW a b x y f l ∧ l.length ≤ 1000000)
end
section
attribute [local go_sem] Oper.semAt_some
end
section
attribute [local go_sem] Oper.semAt_some

def shE (x : Ed) : Ed := ⟨x.src,x.ev + 1,x.dst⟩
def GivesSh (l : List Ed) (w : World) (e : Ending) (w' : World) : Prop := ∃ A c,e = .returned (.slice A (l.map shE).length c) ∧ (SepW w [eEds (l.map shE) (.slice A (l.map shE).length c)] w')
end
end Go.Proofs.Ytjjifefanjnghaa
