/-
  What the row leans on.
-/
import Derived.Test.YtjjifefanjnghaaBas01
import Derived.Test.YtjjifefanjnghaaImx06
import Derived.Test.YtjjifefanjnghaaBas07
import Derived.Test.YtjjifefanjnghaaBas08
import Derived.Test.YtjjifefanjnghaaImx01
import Derived.Test.YtjjifefanjnghaaImx03
import Derived.Deep.RegionHeld3
import Derived.Test.YtjjifefanjnghaaBas03
import Derived.Test.YtjjifefanjnghaaBas09
set_option linter.unusedSimpArgs false
set_option linter.unusedVariables false
namespace Go.Proofs.Ytjjifefanjnghaa
open Go.RowKit
set_option maxRecDepth 100000
section

structure Pw where
 x : Int
 y : Int
 w : List Int
def Pw.pr (p : Pw) : Int × Int := (p.x,p.y)
theorem Bfs.shortW {α : Type} {stp : α → Int → α} {s0 : α} {dead : α → Prop} {evs : List Int} {i k : Nat} {vs : List α} {ws : List (List Int)} (h : Bfs stp s0 dead evs i k vs ws) : ∀ (j : Nat) (w : List Int),ws[j]? = some w → w.length ≤ j := by
 intro j;induction j using Nat.strongRecOn with
 | ind j ih =>
   intro w hw;by_cases h0 : j = 0
   · subst h0; rw [h.zw] at hw; cases hw; simp
   · obtain ⟨b,u,e,_,hb,hu,rfl⟩ := h.pre j w (by omega) hw;have := ih b hb u hu;simp; omega
structure LInv (a b : Au) (s0 : Int × Int) (i k t : Nat) (l : List Pw) : Prop where
 bfs : Bfs (stp2 a b) s0 dead2 ev32 i k (l.map Pw.pr) (l.map Pw.w)
 nd : (l.map Pw.pr).Nodup
 rg : ∀ v,v ∈ l → -1 ≤ v.x ∧ v.x < a.n ∧ -1 ≤ v.y ∧ v.y < b.n
 al : ∀ v,v ∈ l → v.pr ≠ (-1,-1)
 no : ∀ (j : Nat) v,j < t → (l.map Pw.pr)[j]? = some v → pdV a b v = false
section
variable {a b : Au} {s0 : Int × Int} {i k t : Nat} {l : List Pw}
theorem LInv.start (x y : Int) (hx : -1 ≤ x ∧ x < a.n) (hy : -1 ≤ y ∧ y < b.n) (hd : (x,y) ≠ (-1,-1)) : LInv a b (x,y) 0 0 0 [⟨x,y,[]⟩] :=
 ⟨Bfs.start,by simp,fun v hv => by
  simp at hv; subst hv
  simp only; omega,fun v hv => by
  simp at hv; subst hv; exact hd,fun j v h => absurd h (by omega)⟩
theorem LInv.len (h : LInv a b s0 i k t l) (ha : a.Right) (hb : b.Right) : l.length ≤ (a.n.toNat + 2) * (b.n.toNat + 2) := by
 have h1 := nodup_lenN ((a.n.toNat + 2) * (b.n.toNat + 2)) ((l.map Pw.pr).map fun q => (q.1 + 1).toNat * (b.n.toNat + 2) + (q.2 + 1).toNat) ?_ ?_
 · simpa using h1
 · rw [List.nodup_iff_pairwise_ne,List.pairwise_map];refine List.Pairwise.imp_of_mem ?_ (List.nodup_iff_pairwise_ne.1 h.nd);intro p q hp hq hne hc;obtain ⟨v,hv,rfl⟩ := List.mem_map.1 hp;obtain ⟨u,hu,rfl⟩ := List.mem_map.1 hq;have r1 := h.rg v hv;have r2 := h.rg u hu;have n1 := hb.n0;simp only [Pw.pr] at hc hne;have e2 : (v.y + 1).toNat < b.n.toNat + 2 := by omega
   have e3 : (u.y + 1).toNat < b.n.toNat + 2 := by omega
   have e4 : (v.x + 1).toNat = (u.x + 1).toNat := by
    have m1 := Nat.div_eq_of_lt e2;have m2 := Nat.div_eq_of_lt e3;have := congrArg (· / (b.n.toNat + 2)) hc;rw [Nat.mul_comm,Nat.mul_add_div (by omega),m1,Nat.mul_comm,Nat.mul_add_div (by omega),m2] at this;omega
   rw [e4] at hc;exact hne (by rw [Prod.mk.injEq]; omega)
 · intro x hx;obtain ⟨q,hq,rfl⟩ := List.mem_map.1 hx;obtain ⟨v,hv,rfl⟩ := List.mem_map.1 hq;have r1 := h.rg v hv;have n0 := ha.n0;have n1 := hb.n0;simp only [Pw.pr];have e1 : (v.x + 1).toNat + 1 ≤ a.n.toNat + 2 := by omega
   have e2 : (v.y + 1).toNat < b.n.toNat + 2 := by omega
   have := Nat.mul_le_mul_right (b.n.toNat + 2) e1;rw [Nat.succ_mul] at this;omega
theorem LInv.word (h : LInv a b s0 i k t l) {j : Nat} {p : Pw} (hp : l[j]? = some p) : p.w.length ≤ j := h.bfs.shortW j p.w (by rw [List.getElem?_map,hp]; rfl)
theorem LInv.skip (h : LInv a b s0 i k t l) {v : Pw} (hv : l[i]? = some v) (hk : k < 32) (hs : stp2 a b v.pr (k : Int) = (-1,-1) ∨ stp2 a b v.pr (k : Int) ∈ l.map Pw.pr) : LInv a b s0 i (k + 1) t l :=
 ⟨h.bfs.skip ev32_incr (v := v.pr) (by rw [List.getElem?_map,hv]; rfl) (ev32_get hk) (hs.imp id fun g => by
  obtain ⟨j,hj,e⟩ := List.mem_iff_getElem.1 g;exact ⟨j,by rw [List.getElem?_eq_getElem hj,e]⟩),h.nd,h.rg,h.al,h.no⟩
theorem LInv.push (ha : a.Right) (hb : b.Right) (h : LInv a b s0 i k t l) (ht : t ≤ l.length) {v : Pw} (hv : l[i]? = some v) (hk : k < 32) (h1 : ¬ stp2 a b v.pr (k : Int) = (-1,-1)) (h2 : ¬ stp2 a b v.pr (k : Int) ∈ l.map Pw.pr) :
 LInv a b s0 i (k + 1) t (l ++ [⟨(stp2 a b v.pr (k : Int)).1,(stp2 a b v.pr (k : Int)).2,v.w ++ [(k : Int)]⟩]) := by
 have hv' : (l.map Pw.pr)[i]? = some v.pr := by rw [List.getElem?_map,hv]; rfl
 have hw' : (l.map Pw.w)[i]? = some v.w := by rw [List.getElem?_map,hv]; rfl
 refine ⟨?_,?_,fun u hu => ?_,fun u hu => ?_,fun j u hj hu => ?_⟩
 · rw [List.map_append,List.map_append];exact h.bfs.push ev32_incr hv' (ev32_get hk) hw'
 · rw [List.map_append];refine List.nodup_append.2 ⟨h.nd,by simp,fun p hp q hq => ?_⟩;simp at hq
   rintro rfl;refine h2 ?_;rw [hq] at hp;exact hp
 · rcases List.mem_append.1 hu with g | g
   · exact h.rg u g
   · simp at g; subst g
     have := ha.to_cases v.x k;have := hb.to_cases v.y k;have := ha.n0;have := hb.n0;simp only [stp2,Pw.pr];omega
 · rcases List.mem_append.1 hu with g | g
   · exact h.al u g
   · simp at g; subst g
     intro hc;exact h1 (by rw [← hc]; simp [Pw.pr])
 · rw [List.map_append,List.getElem?_append_left (by simp; omega)] at hu;exact h.no j u hj hu
theorem LInv.next (h : LInv a b s0 i 32 t l) : LInv a b s0 (i + 1) 0 t l := ⟨Bfs.next (by rw [ev32_len]; exact h.bfs),h.nd,h.rg,h.al,h.no⟩
theorem LInv.test (h : LInv a b s0 i k i l) {v : Pw} (hv : l[i]? = some v) (hp : pdV a b v.pr = false) : LInv a b s0 i k (i + 1) l :=
 ⟨h.bfs,h.nd,h.rg,h.al,fun j u hj hu => by
  by_cases e : j = i
  · subst e;rw [List.getElem?_map,hv] at hu;cases hu; exact hp
  · exact h.no j u (by omega) hu⟩
theorem LInv.least (ha : a.Right) (hb : b.Right) (h : LInv a b s0 i k i l) {v : Pw} (hv : l[i]? = some v) (hp : pdV a b v.pr = true) : LeastW (LeadsTo (stp2 a b) s0 ev32 (fun q => pdV a b q = true)) v.w :=
 h.bfs.least (dead2_step ha hb) (P := fun q => pdV a b q = true) (fun s hs => by unfold dead2 at hs; subst hs; simp [pdV_dead]) (fun j u hj hu => by rw [h.no j u hj hu]; simp) (show (l.map Pw.pr)[i]? = some v.pr by rw [List.getElem?_map,hv]; rfl) (show (l.map Pw.w)[i]? = some v.w by rw [List.getElem?_map,hv]; rfl) hp
theorem LInv.none_ (ha : a.Right) (hb : b.Right) (h : LInv a b s0 l.length k l.length l) (u : List Int) : ¬ LeadsTo (stp2 a b) s0 ev32 (fun q => pdV a b q = true) u :=
 h.bfs.none_ (dead2_step ha hb) (P := fun q => pdV a b q = true) (fun s hs => by unfold dead2 at hs; subst hs; simp [pdV_dead]) (by simp) (fun j v hv => by
  have hj := (List.getElem?_eq_some_iff.1 hv).1;rw [h.no j v (by simpa using hj) hv]; simp) u
end
theorem stp2_out {a b : Au} (ha : a.Right) (hb : b.Right) (s : Int × Int) (e : Int) (h : ¬ e ∈ unionS a.al b.al) : stp2 a b s e = (-1,-1) := by
 have f : ∀ c : Au,c.Right → ¬ e ∈ c.al → ∀ t,toV (stepOf c.ed) t e = -1 := fun c hc hn t => by
  rw [← hc.next];rcases hc.next_cases t e with g | ⟨_,_,x,hx,_,x2,_⟩
  · exact g
  · obtain ⟨j,hj,hjx⟩ := List.mem_iff_getElem.1 hx;have := (hc.ed j hj x (by rw [List.getElem?_eq_getElem hj,hjx])).2.2.2.2.1;rw [x2] at this;exact absurd this hn
 simp only [stp2];rw [f a ha (fun g => h (mem_unionS.2 (.inl g))),f b hb (fun g => h (mem_unionS.2 (.inr g)))]
theorem fold_dead {a b : Au} (ha : a.Right) (hb : b.Right) : ∀ (w : List Int),w.foldl (stp2 a b) (-1,-1) = (-1,-1)
 | [] => rfl
 | e :: w => by
   rw [List.foldl_cons,dead2_step ha hb (-1,-1) e rfl];exact fold_dead ha hb w
theorem DistW.uniq {a b : Au} {x y : Int} {f g : Bool} {l m : List Int} (h : DistW a b x y f l) (k : DistW a b x y g m) : f = g ∧ l = m := by
 rcases h with ⟨rfl,h⟩ | ⟨rfl,rfl,h⟩
 · rcases k with ⟨rfl,k⟩ | ⟨rfl,rfl,k⟩
   · exact ⟨rfl,h.uniq k⟩
   · exact absurd h.is (k _)
 · rcases k with ⟨rfl,k⟩ | ⟨rfl,rfl,k⟩
   · exact absurd k.is (h _)
   · exact ⟨rfl,rfl⟩
end
def Ent.and (e f : Ent) : Ent where
 foot := e.foot ++ f.foot
 ok w := e.ok w ∧ f.ok w
 lt w h g hg := (List.mem_append.1 hg).elim (e.lt w h.1 g) (f.lt w h.2 g)
 turn w w' h hg := ⟨e.turn w w' h.1 fun g k => hg g (List.mem_append_left _ k),f.turn w w' h.2 fun g k => hg g (List.mem_append_right _ k)⟩
theorem Sep.join {n : Nat} {w0 w : World} {e f : Ent} {es : List Ent} (S : Sep n w0 (e :: f :: es) w) : Sep n w0 (e.and f :: es) w := by
 have ap := S.ap;rw [List.pairwise_cons,List.pairwise_cons] at ap;refine ⟨S.fro,fun x hx => ?_,fun x hx => ?_,List.pairwise_cons.2 ⟨fun x hx g hg => ?_,ap.2.2⟩⟩
 · rcases List.mem_cons.1 hx with rfl | hx
   · exact ⟨S.ok e (by simp),S.ok f (by simp)⟩
   · exact S.ok x (by simp [hx])
 · rcases List.mem_cons.1 hx with rfl | hx
   · exact fun g hg => (List.mem_append.1 hg).elim (S.ge e (by simp) g) (S.ge f (by simp) g)
   · exact S.ge x (by simp [hx])
 · rcases List.mem_append.1 hg with h | h
   · exact ap.1 x (by simp [hx]) g h
   · exact ap.2.1 x hx g h

structure PrV where
 x : Int
 y : Int
 A : Option Addr
 n : Nat
 c : Nat
def PrV.cells (p : PrV) : List Value := [.int .i64 p.x,.int .i64 p.y,.slice p.A p.n p.c]
def WdAt (fs : List Nat) (w : World) (r : PrV) (wd : List Int) : Prop := r.n = wd.length ∧ ((r.A = none ∧ wd = [] ∧ r.c = 0) ∨ ∃ g,r.A = some ⟨g,0,none⟩ ∧ g ∈ fs ∧ ∀ j x,wd[j]? = some x → w.cell? ⟨g,j,none⟩ = some (.int .i64 x))
def eWds (fs : List Nat) (raw : List PrV) (l : List Pw) : Ent where
 foot := fs
 ok w := raw.length = l.length ∧ (∀ g,g ∈ fs → g < w.heap.size) ∧ ∀ (i : Nat) (r : PrV) (p : Pw),raw[i]? = some r → l[i]? = some p → r.x = p.x ∧ r.y = p.y ∧ WdAt fs w r p.w
 lt w h := h.2.1
 turn w w' h hg := by
  refine ⟨h.1,fun g hk => ?_,fun i r p hr hp => ?_⟩
  · have h1 := hg g hk;have h2 := h.2.1 g hk;rw [Array.getElem?_eq_getElem h2] at h1;exact (Array.getElem?_eq_some_iff.1 h1).1
  · obtain ⟨h1,h2,h3,h4⟩ := h.2.2 i r p hr hp;refine ⟨h1,h2,h3,h4.imp id fun ⟨g,e,hm,hc⟩ => ⟨g,e,hm,fun j x hx => ?_⟩⟩;exact (World.cell?_of_block (a := ⟨g,_,none⟩) (hg g hm)).trans (hc j x hx)
theorem WdAt.ints {fs : List Nat} {w : World} {r : PrV} {wd : List Int} (h : WdAt fs w r wd) (hfs : ∀ g,g ∈ fs → g < w.heap.size) : IntsAt w r.A wd := by
 intro hne;rcases h.2 with ⟨_,h2,_⟩ | ⟨g,hA,hm,hc⟩
 · exact absurd h2 hne
 · refine ⟨g,0,hA,hfs g hm,fun i x hx => ⟨[.int .i64 x],rfl,rfl,fun j v hj => ?_⟩⟩;cases j with
   | zero => simp at hj; subst hj; simpa using hc i x hx
   | succ j => simp at hj
theorem Sep.wdCells {n : Nat} {w0 w : World} {es : List Ent} {fs : List Nat} {raw : List PrV} {l : List Pw} (S : Sep n w0 es w) (i : Nat) (hi : es[i]? = some (eWds fs raw l)) {q : Nat} {p : Pw} {g : Nat} {x y : Int} {nn c : Nat} (hr : raw[q]? = some ⟨x,y,some ⟨g,0,none⟩,nn,c⟩) (hp : l[q]? = some p) : ∀ j u,(p.w.flatMap encI)[j]? = some u → w.cell? ⟨g,j,none⟩ = some u := by
 intro j u hj;obtain ⟨_,_,_,h4⟩ := (S.get i hi).2.2 q _ p hr hp;rcases h4 with ⟨h,_⟩ | ⟨g',hA,_,hc⟩
 · cases h
 · cases hA;rw [flat_encI,List.getElem?_map,Option.map_eq_some_iff] at hj;obtain ⟨z,hz,rfl⟩ := hj;exact hc j z hz
theorem Sep.wdsPush {n : Nat} {w0 w : World} {es : List Ent} {fs : List Nat} {raw : List PrV} {l : List Pw} {wd : List Int} {A : Option Addr} {c : Nat} (S : Sep n w0 (eInts wd (.slice A wd.length c) :: eWds fs raw l :: es) w) (x y : Int) :
 Sep n w0 (eWds ((Value.slice A wd.length c).ownBlock.toList ++ fs) (raw ++ [⟨x,y,A,wd.length,c⟩]) (l ++ [⟨x,y,wd⟩]) :: es) w := by
 refine (S.join).as 0 rfl _ (fun h => ?_) (fun g hg => hg);obtain ⟨ho,hl,hz,hc⟩ := h;refine ⟨by simp [hl],fun g hg => ?_,fun i r p hr hp => ?_⟩
 · rcases List.mem_append.1 hg with k | k
   · exact (Own.lt ho g (by simpa using k)).2
   · exact hz g k
 · rcases getElem?_snoc hr with hr | ⟨hi,rfl⟩
   · have hil := (List.getElem?_eq_some_iff.1 hr).1;rw [List.getElem?_append_left (by omega)] at hp;obtain ⟨h1,h2,h3,h4⟩ := hc i r p hr hp;exact ⟨h1,h2,h3,h4.imp id fun ⟨g,e,hm,hk⟩ => ⟨g,e,List.mem_append_right _ hm,hk⟩⟩
   · rw [hi,hl,List.getElem?_append_right (Nat.le_refl _)] at hp;simp at hp
     subst hp;refine ⟨rfl,rfl,rfl,?_⟩;have hI := OwnI.ints ho;rcases ho.2 with ⟨h1,h2⟩ | ⟨g,cap,cur,h1,h2,h3⟩
     · simp only [Value.slice.injEq] at h1;obtain ⟨rfl,_,rfl⟩ := h1;exact .inl ⟨rfl,List.eq_nil_of_length_eq_zero h2,rfl⟩
     · simp only [Value.slice.injEq] at h1;obtain ⟨rfl,_,rfl⟩ := h1;refine .inr ⟨g,rfl,by simp [Value.ownBlock],fun j x hx => ?_⟩;obtain ⟨z,hz1,hz2⟩ := IntsAt.more hI (List.getElem?_eq_some_iff.1 hx).1;rw [hx] at hz1; cases hz1;simpa using hz2
section

theorem count_set_true : ∀ (l : List Bool) (i : Nat),l[i]? = some false → (l.set i true).count false + 1 = l.count false
 | [],i,h => by simp at h
 | b :: l,0,h => by
   simp at h; subst h; simp
 | b :: l,i + 1,h => by
   have := count_set_true l i (by simpa using h);simp only [List.set_cons_succ,List.count_cons];omega
theorem getD_false_some {l : Array Bool} {i : Nat} (h : l.getD i true = false) : l.toList[i]? = some false := by
 rcases Nat.lt_or_ge i l.size with h' | h'
 · simp [h'] at h ⊢; exact h
 · simp [Array.getElem?_eq_none h'] at h

section
variable {P : Program} {ops : Array Oper} {Q : Exit → Act → World → Prop} {md : Region.Mode} {S : World → Prop} {INV : Array Bool → Act → World → Prop} {D : List (List Nat)}

def depsOk (md : Region.Mode) (ops : Array Oper) (D : List (List Nat)) : Bool :=
 (List.range ops.size).all fun i => ((ops[i]?).map fun o => (o.after.all fun e => decide (e.on < i)) && ((D.getD i []).all fun d => o.after.any fun e => e.on == d && Region.binds md e)).getD false
theorem depsOk_at (h : depsOk md ops D = true) {i : Nat} {o : Oper} (ho : ops[i]? = some o) : (∀ e ∈ o.after,e.on < i) ∧ ∀ d ∈ D.getD i [],∃ e ∈ o.after,e.on = d ∧ Region.binds md e = true := by
 have hi : i < ops.size := (Array.getElem?_eq_some_iff.1 ho).1;have h1 := List.all_eq_true.1 h i (List.mem_range.2 hi);rw [ho] at h1;simp only [Option.map_some,Option.getD_some,Bool.and_eq_true] at h1;refine ⟨fun e he => ?_,fun d hd => ?_⟩
 · have := Array.all_eq_true'.1 h1.1 e he;simpa using this
 · have := List.all_eq_true.1 h1.2 d hd;obtain ⟨e,he,h2⟩ := Array.any_eq_true'.1 this;simp only [Bool.and_eq_true,beq_iff_eq] at h2;exact ⟨e,he,h2⟩
theorem ready_none (h : depsOk md ops D = true) {l : Array Bool} (hr : Region.ready md ops l = []) : ∀ i,i < ops.size → l.getD i true = true := by
 intro i;induction i using Nat.strongRecOn with
 | _ i ih =>
   intro hi;obtain ⟨o,ho⟩ : ∃ o,ops[i]? = some o := ⟨_,Array.getElem?_eq_getElem hi⟩;cases hl : l.getD i true
   · exfalso
     have : i ∈ Region.ready md ops l := mem_ready.2 ⟨hl,o,ho,fun e he hb => by
      have h1 := (depsOk_at h ho).1 e he;have h2 := ih e.on h1 (by omega);have : e.on < l.size := by
       rcases Nat.lt_or_ge i l.size with h' | h'
       · omega
       · simp [Array.getElem?_eq_none h'] at hl
      have h3 : l.getD e.on true = l.getD e.on false := by simp [this]
      rw [← h3]; exact h2⟩
     rw [hr] at this;cases this
   · rfl
def StepI (P : Program) (ops : Array Oper) (Q : Exit → Act → World → Prop) (INV : Array Bool → Act → World → Prop) (D : List (List Nat)) (i : Nat) : Prop :=
 ∀ l a w,INV l a w → l.getD i true = false → (∀ d,d ∈ D.getD i [] → l.getD d false = true) → wpOp P ops Q i (INV (l.setIfInBounds i true)) a w
def StepsI (P : Program) (ops : Array Oper) (Q : Exit → Act → World → Prop) (INV : Array Bool → Act → World → Prop) (D : List (List Nat)) (rs : List Nat) : Prop := ∀ i ∈ rs,StepI P ops Q INV D i
theorem StepsI.nil : StepsI P ops Q INV D [] := fun _ h => by cases h
theorem StepsI.cons {i : Nat} {o : Oper} {rs : List Nat} (ho : ops[i]? = some o)
 (h : ∀ l a w,INV l a w → l.getD i true = false → (∀ d,d ∈ D.getD i [] → l.getD d false = true) → ∀ K' : Act → World → Prop,Hid (∀ a w,INV (l.setIfInBounds i true) a w → K' a w) → if Region.wanted o (yielded ops a.tmps) = true then Oper.wp P o a w K' Q else K' (a.put o.dst undef) w)
 (hs : StepsI P ops Q INV D rs) : StepsI P ops Q INV D (i :: rs) := fun j hj => by
 rcases List.mem_cons.1 hj with rfl | hj
 · exact fun l a w hI hl hd => wpOp_step ho (fun K' hK => h l a w hI hl hd K' hK)
 · exact hs j hj
theorem wpAnyH_inv (rs : List Nat) (hd : depsOk md ops D = true) (hS : ∀ l a w,INV l a w → S w) (hrs : ∀ l a w,INV l a w → ((List.range ops.size).all fun i => rs.contains i || l.getD i true) = true)
 (hfin : ∀ l a w,INV l a w → (∀ i,i < ops.size → l.getD i true = true) → Q .normal a w) (hstep : StepsI P ops Q INV D rs) :
 ∀ (fuel : Nat) (l : Array Bool) (a : Act) (w : World),l.toList.count false ≤ fuel → INV l a w → wpAnyH P md ops Q S fuel l a w := by
 intro fuel;induction fuel with
 | zero =>
   intro l a w hc hI;have none_ : Region.ready md ops l = [] := by
    rw [List.eq_nil_iff_forall_not_mem];intro i hi;have h1 := getD_false_some (mem_ready.1 hi).1;have h2 := List.count_pos_iff.2 (List.mem_of_getElem? h1);omega
   exact ⟨none_,hfin l a w hI (ready_none hd none_)⟩
 | succ fuel ih =>
   intro l a w hc hI;refine ⟨fun hr => hfin l a w hI (ready_none hd hr),fun i hi => ?_⟩;obtain ⟨hl,o,ho,hall⟩ := mem_ready.1 hi;have hilt : i < ops.size := (Array.getElem?_eq_some_iff.1 ho).1;have hmem : i ∈ rs := by
    have := List.all_eq_true.1 (hrs l a w hI) i (List.mem_range.2 hilt);rw [hl,Bool.or_false] at this;simpa using this
   refine wpOp_mono (fun a' w' h => ⟨hS _ _ _ h,ih _ a' w' ?_ h⟩) (hstep i hmem l a w hI hl fun d hdm => ?_)
   · have := count_set_true l.toList i (getD_false_some hl);rw [Array.toList_setIfInBounds];omega
   · obtain ⟨e,he,h1,h2⟩ := (depsOk_at hd ho).2 d hdm;rw [← h1]; exact hall e he h2
end

theorem act_name {P : Program} {ops : Array Oper} {Q : Exit → Act → World → Prop} {md : Region.Mode} {S : World → Prop} {fuel : Nat} {l : Array Bool} {a : Act} {w : World} (h : ∀ A0,A0 = a → wpAnyH P md ops Q S fuel l A0 w) : wpAnyH P md ops Q S fuel l a w := h a rfl
def eNo : Ent where
 foot := []
 ok _ := True
 lt w h g hg := by cases hg
 turn w w' h hg := trivial
section
variable {n : Nat} {w0 w w' : World} {es : List Ent}
theorem Sep.no (S : Sep n w0 es w) : Sep n w0 (eNo :: es) w := S.new1 (Below.refl _ _) eNo trivial (by simp [eNo])
end
end
def eBox (t : Nat) (a : Au) (p : AuP) : Ent := (eBlk t 25 [.slice p.A1 a.al.length p.c1,.int .i64 a.n,.slice p.A2 a.mr.length p.c2,.slice p.A3 a.ed.length p.c3]).and ((eInts a.al (.slice p.A1 a.al.length p.c1)).and ((eInts a.mr (.slice p.A2 a.mr.length p.c2)).and (eEds a.ed (.slice p.A3 a.ed.length p.c3))))
theorem Sep.box {n : Nat} {w0 w : World} {t : Nat} {a : Au} {p : AuP} {es : List Ent} (S : Sep n w0 (eBlk t 25 [.slice p.A1 a.al.length p.c1,.int .i64 a.n,.slice p.A2 a.mr.length p.c2,.slice p.A3 a.ed.length p.c3] :: eInts a.al (.slice p.A1 a.al.length p.c1) :: eInts a.mr (.slice p.A2 a.mr.length p.c2) :: eEds a.ed (.slice p.A3 a.ed.length p.c3) :: es) w) : Sep n w0 (eBox t a p :: es) w := by
 have ap := S.ap;simp only [List.pairwise_cons] at ap;refine ⟨S.fro,fun x hx => ?_,fun x hx => ?_,List.pairwise_cons.2 ⟨fun x hx g hg => ?_,ap.2.2.2.2⟩⟩
 · rcases List.mem_cons.1 hx with rfl | hx
   · exact ⟨S.ok _ (by simp),S.ok _ (by simp),S.ok _ (by simp),S.ok _ (by simp)⟩
   · exact S.ok x (by simp [hx])
 · rcases List.mem_cons.1 hx with rfl | hx
   · intro g hg;rcases List.mem_append.1 hg with h | h
     · exact S.ge _ (by simp) g h
     rcases List.mem_append.1 h with h | h
     · exact S.ge (eInts a.al (.slice p.A1 a.al.length p.c1)) (by simp) g h
     rcases List.mem_append.1 h with h | h
     · exact S.ge (eInts a.mr (.slice p.A2 a.mr.length p.c2)) (by simp) g h
     · exact S.ge (eEds a.ed (.slice p.A3 a.ed.length p.c3)) (by simp) g h
   · exact S.ge x (by simp [hx])
 · rcases List.mem_append.1 hg with h | h
   · exact ap.1 x (by simp [hx]) g h
   rcases List.mem_append.1 h with h | h
   · exact ap.2.1 x (by simp [hx]) g h
   rcases List.mem_append.1 h with h | h
   · exact ap.2.2.1 x (by simp [hx]) g h
   · exact ap.2.2.2.1 x hx g h
theorem eBox.at {t : Nat} {a : Au} {p : AuP} {w : World} (h : (eBox t a p).ok w) (hl : Lens a) : Au.At w a p :=
 ⟨OwnI.ints h.2.1,OwnI.ints h.2.2.1,Own.reads (enc := Ed.cells) (k := 3) (T := 70) (B := 0) (fun _ => rfl) h.2.2.2,hl.1,hl.2.1,hl.2.2⟩
theorem eBox.caps {t : Nat} {a : Au} {p : AuP} {w : World} (h : (eBox t a p).ok w) : Caps a p := ⟨Own.cap h.2.1,Own.cap h.2.2.1,Own.cap h.2.2.2⟩
theorem BlkAt.rng {b o T : Nat} {l cs : List Value} {w : World} (h : BlkAt w b T l) (hs : ∀ (j : Nat) v,cs[j]? = some v → l[o + j]? = some v) : w.rangeAt b o cs := fun j v hv => (h.cell (o + j)).trans (hs j v hv)
theorem Sm4.cells_len {d : Sm4} (h : d.Ok) : d.cells.length = 26 := by simp [Sm4.cells,h.l]
theorem Sm4.info {d : Sm4} (h : d.Ok) : (Try.prog.info? 46).map (·.size) = some d.cells.length := by rw [Sm4.cells_len h]; kernel_rfl
theorem DistW.of {a : Au} {x y r : Int} {f : Bool} {l : List Int} (ha : a.Right) (hi : InSt a x y) (h : (r ≠ 0 ∧ l = [] ∧ f = false ∧ (ChkErr a r ∨ a.Right ∧ r = 2 ∧ ¬ InSt a x y)) ∨ (r = 0 ∧ a.Right ∧ InSt a x y ∧ DistW a a x y f l)) : r = 0 ∧ DistW a a x y f l := by
 rcases h with ⟨h1,_,_,h | ⟨_,_,h⟩⟩ | ⟨h1,_,_,h⟩
 · exact absurd (h.uniq (ChkErr.of_right ha)) h1
 · exact absurd hi h
 · exact ⟨h1,h⟩
section
attribute [local go_sem] Oper.semAt_some

def lookV (s : Bool) (raw : List PrV) (x y : Int) (u : Nat) : Bool := s || (raw.take u).any fun r => r.x == x && r.y == y
def GivesL8 (a b : Au) (x y : Int) (w : World) (e : Ending) (w' : World) : Prop := ∃ (A : Option Addr) (c : Nat) (l : List Int) (f : Bool),e = .returned (.tuple #[.slice A l.length c,.bool f]) ∧ Hid (IntsAt w' A l) ∧ Below w.heap.size w w' ∧ Hid (DistW a b x y f l)
end
def Agree (a b : Au) (x y : Int) (w : List Int) : Prop := (0 ≤ runV a.ed x w ↔ 0 ≤ runV b.ed y w) ∧ (runV a.ed x w ∈ a.mr ↔ runV b.ed y w ∈ b.mr)
theorem Au.Right.run_out {a : Au} (h : a.Right) (w : List Int) {s : Int} (hs : s = -1 ∨ 0 ≤ s) : runV a.ed s w = -1 ∨ 0 ≤ runV a.ed s w := by
 rcases hs with rfl | hs
 · exact .inl (runV_neg _ (by decide) w)
 · exact h.run_cases w s hs
theorem next_dead {a : Au} (h : a.Right) (e : Int) : toV (stepOf a.ed) (-1) e = -1 := by
 have h2 : stp2 a a (-1,-1) e = (-1,-1) := dead2_step h h (-1,-1) e rfl;exact (Prod.mk.inj h2).1
theorem fold2 {a b : Au} (ha : a.Right) (hb : b.Right) : ∀ (w : List Int) (x y : Int),x = -1 ∨ 0 ≤ x → y = -1 ∨ 0 ≤ y → w.foldl (stp2 a b) (x,y) = (runV a.ed x w,runV b.ed y w)
 | [],x,y,_,_ => rfl
 | e :: w,x,y,hx,hy => by
   have f : ∀ c : Au,c.Right → ∀ t,t = -1 ∨ 0 ≤ t → runV c.ed (toV (stepOf c.ed) t e) w = runV c.ed t (e :: w) := fun c hc t ht => by
    rcases ht with rfl | ht
    · rw [next_dead hc e,runV_neg _ (by decide),runV_neg _ (by decide)]
    · rw [runV_cons ht,hc.next]
   have g : ∀ c : Au,c.Right → ∀ t,toV (stepOf c.ed) t e = -1 ∨ 0 ≤ toV (stepOf c.ed) t e := fun c hc t => (hc.to_cases t e).imp id And.left;rw [List.foldl_cons];show w.foldl (stp2 a b) (toV (stepOf a.ed) x e,toV (stepOf b.ed) y e) = _
   rw [fold2 ha hb w _ _ (g a ha x) (g b hb y),f a ha x hx,f b hb y hy]
theorem pd_over {a b : Au} (ha : a.Right) (hb : b.Right) : ∀ (w : List Int) (s : Int × Int),pdV a b (w.foldl (stp2 a b) s) = true → ∀ e,e ∈ w → e ∈ unionS a.al b.al
 | [],s,_,e,he => by cases he
 | x :: r,s,h,e,he => by
   rw [List.foldl_cons] at h;rcases List.mem_cons.1 he with rfl | g
   · by_cases hm : e ∈ unionS a.al b.al
     · exact hm
     · rw [stp2_out ha hb s e hm,fold_dead ha hb,pdV_dead] at h;cases h
   · exact pd_over ha hb r _ h e g
theorem pdV_agree {a b : Au} (ha : a.Right) (hb : b.Right) {r s : Int} (hr : r = -1 ∨ 0 ≤ r) (hs : s = -1 ∨ 0 ≤ s) : pdV a b (r,s) = true ↔ ¬ ((0 ≤ r ↔ 0 ≤ s) ∧ (r ∈ a.mr ↔ s ∈ b.mr)) := by
 have m : ∀ c : Au,c.Right → ¬ (-1 : Int) ∈ c.mr := fun c hc h => by have := hc.mem h; omega
 have ma := m a ha;have mb := m b hb;unfold pdV
 rcases hr with rfl | hr <;> rcases hs with rfl | hs
 · simp [ma,mb]
 · have e : ¬ (((-1 : Int),s) = (-1,-1)) := fun h => by have := (Prod.mk.inj h).2; omega
   rw [if_neg e];simp only [decide_true,Bool.true_or,true_iff];exact fun h => by have := h.1.2 hs; omega
 · have e : ¬ ((r,(-1 : Int)) = (-1,-1)) := fun h => by have := (Prod.mk.inj h).1; omega
   rw [if_neg e];simp only [decide_true,Bool.or_true,Bool.true_or,true_iff];exact fun h => by have := h.1.1 hr; omega
 · have e : ¬ ((r,s) = (-1,-1)) := fun h => by have := (Prod.mk.inj h).1; omega
   rw [if_neg e];have e1 : decide (r = -1) = false := decide_eq_false (by omega);have e2 : decide (s = -1) = false := decide_eq_false (by omega);simp only [e1,e2,Bool.false_or];by_cases h1 : r ∈ a.mr <;> by_cases h2 : s ∈ b.mr <;> simp [h1,h2,hr,hs]
theorem leads_tell {a b : Au} (ha : a.Right) (hb : b.Right) {x y : Int} (hx : x = -1 ∨ 0 ≤ x) (hy : y = -1 ∨ 0 ≤ y) (w : List Int) : LeadsTo (stp2 a b) (x,y) (unionS a.al b.al) (fun q => pdV a b q = true) w ↔ ¬ Agree a b x y w := by
 have h := pdV_agree ha hb (ha.run_out w hx) (hb.run_out w hy);have h2 := fold2 ha hb w x y hx hy;constructor
 · rintro ⟨_,h1⟩;have h1 : pdV a b (w.foldl (stp2 a b) (x,y)) = true := h1;rw [h2] at h1;exact h.1 h1
 · intro h1;have h3 : pdV a b (w.foldl (stp2 a b) (x,y)) = true := by rw [h2]; exact h.2 h1
   exact ⟨pd_over ha hb w _ h3,h3⟩
theorem DistW.cases {a b : Au} (ha : a.Right) (hb : b.Right) {x y : Int} (hx : x = -1 ∨ 0 ≤ x) (hy : y = -1 ∨ 0 ≤ y) {f : Bool} {l : List Int} (h : DistW a b x y f l) : f = true ∧ LeastW (fun w => ¬ Agree a b x y w) l ∨ f = false ∧ l = [] ∧ ∀ u,Agree a b x y u := by
 rcases h with ⟨h1,h2⟩ | ⟨h1,h2,h3⟩
 · exact .inl ⟨h1,h2.congr (fun w => leads_tell ha hb hx hy w)⟩
 · exact .inr ⟨h1,h2,fun u => Classical.byContradiction fun g => h3 u ((leads_tell ha hb hx hy u).2 g)⟩
theorem DistW.short {a : Au} (ha : a.Right) {x y : Int} (hx : 0 ≤ x ∧ x < a.n) (hy : 0 ≤ y ∧ y < a.n) {f : Bool} {l : List Int} (h : DistW a a x y f l) : (l.length : Int) < a.n := by
 rcases h.cases ha ha (.inr hx.1) (.inr hy.1) with ⟨_,h⟩ | ⟨_,rfl,_⟩
 · refine Classical.byContradiction fun hl => h.is ?_;have hE : Eqv a x y := Eqv.of_bound ha hx.1 hx.2 hy.1 hy.2 fun w hw => Classical.byContradiction fun hn => by
    have : l.length ≤ w.length := by
     rcases h.le w hn with (h | h) | h
     · omega
     · omega
     · rw [h]; exact Nat.le_refl _
    omega
   exact hE l
 · simp; omega
section
attribute [local go_sem] Oper.semAt_some
theorem isMarked8_c (a : Au) (p : AuP) (s : Int) (w : World) (h2 : IntsAt w p.A2 a.mr) (l2 : a.mr.length ≤ 140737488355328) :
 Calls Try.prog 49 #[a.val p,.int .i64 s] w (Tells (s ∈ a.mr) w) := by
 obtain ⟨al,n,mr,ed⟩ := a;obtain ⟨A1,c1,A2,c2,A3,c3⟩ := p;(try dsimp only [Au.val] at *);have B0 := Lib.hid (Below.new w (.cells #[.slice A1 al.length c1,.int .i64 n,.slice A2 mr.length c2,.slice A3 ed.length c3] 25));have HE := Lib.hid (h2.below IntE.stays B0.out);have q2 : (w.alloc (.cells #[.slice A1 al.length c1,.int .i64 n,.slice A2 mr.length c2,.slice A3 ed.length c3] 25)).cell? ⟨w.heap.size,2,none⟩ = some (.slice A2 mr.length c2) := new_cell w _ [_,_,_,_] _ 2 rfl;clear h2;go_enter Try.func49,Try.ntmps49
 go_wp2_with fail
 generalize hW : w.alloc (.cells #[.slice A1 al.length c1,.int .i64 n,.slice A2 mr.length c2,.slice A3 ed.length c3] 25) = W at *;clear hW;go_loop [5] (fun i => ∃ k : Nat,k ≤ mr.length ∧ i = .int .i64 k ∧ Hid (∀ j y,j < k → mr[j]? = some y → y ≠ s)) (fun i => mr.length - (intOf i).toNat)
 case atStart => exact ⟨0,by omega,rfl,fun i x h => absurd h (by omega)⟩
 case round =>
  obtain ⟨k,hk,rfl,H⟩ := hrel;by_cases hlt : k < mr.length
  · obtain ⟨b,off,y,rfl,_,hy,hcy⟩ := IntsAt.at HE.out hlt;by_cases hyx : y = s
    · have HM := Lib.hid (List.mem_of_getElem? hy);have hyx' : (y == s) = true := by simpa using hyx
      have HYX := Lib.hid hyx;clear hy hyx;go_wp2
      go_ret
      exact ⟨true,rfl,⟨fun _ => HYX.out ▸ HM.out,fun _ => rfl⟩,B0.out⟩
    · have hyx' : (y == s) = false := by simpa using hyx
      have HYX := Lib.hid hyx;have HY := Lib.hid hy;clear hyx hy;go_wp2
      go_round
      case rel => exact ⟨k + 1,by omega,by go_num,fun j z hj hz => by
       by_cases e : j = k
       · subst e; rw [HY.out] at hz; cases hz; exact HYX.out
       · exact H.out j z (by omega) hz⟩
      case measure => simp [intOf]; omega
  · obtain rfl : k = mr.length := by omega
    have HN : Hid (¬ s ∈ mr) := notIn_all H.out;go_wp2
    go_ret
    exact ⟨false,rfl,⟨fun h => by (cases h),fun h => absurd h HN.out⟩,B0.out⟩

theorem isMarked8_d (a : Au) (p : AuP) (s : Int) (m : Bool) (w : World) (h2 : IntsAt w p.A2 a.mr) (l2 : a.mr.length ≤ 140737488355328) (h : decide (s ∈ a.mr) = m) : Calls Try.prog 49 #[a.val p,.int .i64 s] w (Ret (.bool m) w) := by
 refine (isMarked8_c a p s w h2 l2).mono ?_;rintro e w' ⟨r,rfl,hr,hb⟩;refine ⟨?_,hb⟩;have : r = m := by
  rw [← h];by_cases g : s ∈ a.mr
  · rw [decide_eq_true g,hr.2 g]
  · rw [decide_eq_false g];cases r
    · rfl
    · exact absurd (hr.1 rfl) g
 rw [this]
theorem toV_snoc (l : List Ed) (x : Ed) (s e : Int) : toV (stepOf (l ++ [x])) s e = if x.src = s ∧ x.ev = e then x.dst else toV (stepOf l) s e := by
 unfold toV
 rw [stepOf_snoc];by_cases h : x.src = s ∧ x.ev = e
 · rw [if_pos h,if_pos (by rw [h.1,h.2])]; rfl
 · rw [if_neg h,if_neg (fun g => h (by obtain ⟨h1,h2⟩ := Prod.mk.inj g; exact ⟨h1.symm,h2.symm⟩))]
set_option maxHeartbeats 4000000 in
theorem end8_c (a : Au) (p : AuP) (AW : Option Addr) (cW : Nat) (x : Int) (l : List Int) (w : World) (hr : a.Right) (hA : Au.At w a p) (hW : IntsAt w AW l) (hl : l.length ≤ 1000000) (hx : x = -1 ∨ 0 ≤ x) :
 Calls Try.prog 48 #[a.val p,.int .i64 x,.slice AW l.length cW] w (Ret (.int .i64 (runV a.ed x l)) w) := by
 have HR := Lib.hid hr;have HA := Lib.hid hA;have HW := Lib.hid hW;have HX0 := Lib.hid hx;obtain ⟨al,n,mr,ed⟩ := a;obtain ⟨A1,c1,A2,c2,A3,c3⟩ := p;dsimp only [Au.val];have he : ed.length ≤ 140737488355328 := HA.out.led;clear hr hA hW hx;go_enter Try.func48,Try.ntmps48
 go_upto_region 1 with fail
 refine wp_world (fun W => Sep w.heap.size w [eBlk w.heap.size 25 [.slice A1 al.length c1,.int .i64 n,.slice A2 mr.length c2,.slice A3 ed.length c3]] W) ?_ fun W S => ?_
 · exact (Sep.here w).alloc' _ [_,_,_,_] rfl rfl
 have S0 := Lib.hid S;clear S;go_wp2_with fail
 go_loopw [1,7,8,9] (fun v j _ _ wr => ∃ (i : Nat) (s : Int),v = .int .i64 s ∧ j = .int .i64 ↑i ∧ i ≤ l.length ∧ Hid (s = runV ed x (l.take i)) ∧ Hid (s = -1 ∨ 0 ≤ s) ∧ (SepW w [eBlk w.heap.size 25 [.slice A1 al.length c1,.int .i64 n,.slice A2 mr.length c2,.slice A3 ed.length c3]] wr)) (fun _ j _ _ _ => l.length - (intOf j).toNat)
 case atStart => exact ⟨0,x,rfl,rfl,Nat.zero_le _,rfl,HX0.out,S0.out⟩
 case round =>
  clear S0;obtain ⟨i,s,rfl,rfl,hi,HS,HS0,S⟩ := hrel;by_cases hlt : i < l.length
  · have hlt' : decide ((i : Int) < (l.length : Int)) = true := decide_eq_true (by omega);by_cases hs : 0 ≤ s
    · have hs' : decide (s ≥ 0) = true := decide_eq_true hs;obtain ⟨gW,oW,e,rfl,_,hev,hec⟩ := IntsAt.at (HW.out.below IntE.stays S.out.below) hlt;have HEV := Lib.hid hev;clear hev hec;go_wp2_with fail
      go_loopw [8,9] (fun v j wr => ∃ k : Nat,j = .int .i64 ↑k ∧ k ≤ ed.length ∧ v = .int .i64 (toV (stepOf (ed.take k)) s e) ∧ (SepW w [eBlk w.heap.size 25 [.slice A1 al.length c1,.int .i64 n,.slice A2 mr.length c2,.slice A3 ed.length c3]] wr)) (fun _ j _ => ed.length - (intOf j).toNat)
      case atStart => exact ⟨0,rfl,Nat.zero_le _,rfl,S.out⟩
      case round =>
       clear S;obtain ⟨k,rfl,hk,rfl,S⟩ := hrel;have b0 := BlkAt.cell (S.out.get 0 rfl) 0; have b1 := BlkAt.cell (S.out.get 0 rfl) 1; have b2 := BlkAt.cell (S.out.get 0 rfl) 2; have b3 := BlkAt.cell (S.out.get 0 rfl) 3; simp only [List.getElem?_cons_succ,List.getElem?_cons_zero] at b0 b1 b2 b3;by_cases hke : k < ed.length
       · obtain ⟨gE,oE,y,rfl,_,hy,y0,y1,y2⟩ := EdsAt.at (HA.out.ed.below EdE.stays S.out.below) hke;obtain ⟨src,ev,dst⟩ := y;dsimp only at y0 y1 y2;obtain ⟨gW',oW',e',hg,_,hev,hec⟩ := IntsAt.at (HW.out.below IntE.stays S.out.below) hlt;obtain ⟨rfl,rfl⟩ : gW = gW' ∧ oW = oW' := by cases hg; exact ⟨rfl,rfl⟩
         obtain rfl : e = e' := by have := HEV.out.symm.trans hev; cases this; rfl
         have hT : ed.take (k + 1) = ed.take k ++ [⟨src,ev,dst⟩] := by rw [List.take_add_one,hy]; rfl
         have HT : Hid (toV (stepOf (ed.take (k + 1))) s e = if src = s ∧ ev = e then dst else toV (stepOf (ed.take k)) s e) := by rw [Hid,hT,toV_snoc]
         clear hy hev hg hT;obtain ⟨t0,ht0⟩ : ∃ t,toV (stepOf (ed.take k)) s e = t := ⟨_,rfl⟩;obtain ⟨t1,ht1⟩ : ∃ t,toV (stepOf (ed.take (k + 1))) s e = t := ⟨_,rfl⟩;rw [ht0,ht1] at HT;have HT1 := Lib.hid ht1;simp only [ht0];clear ht0 ht1;have hke' : decide ((k : Int) < (ed.length : Int)) = true := decide_eq_true (by omega);by_cases h1 : src = s
         · have h1' : (src == s) = true := by simpa using h1
           by_cases h2 : ev = e
           · have h2' : (ev == e) = true := by simpa using h2
             obtain rfl : t1 = dst := by rw [HT.out,if_pos ⟨h1,h2⟩]
             clear h1 h2;go_upto_region 8 with fail
             go_quiet (fail)
             go_wp2_with fail
             go_roundw
             case rel => exact ⟨k + 1,by go_num,hke,by rw [HT1.out],S.out.draws _⟩
             case measure => simp [intOf]; omega
           · have h2' : (ev == e) = false := by simpa using h2
             obtain rfl : t1 = t0 := by rw [HT.out,if_neg (fun h => h2 h.2)]
             clear h1 h2;go_upto_region 8 with fail
             go_quiet (fail)
             go_wp2_with fail
             go_roundw
             case rel => exact ⟨k + 1,by go_num,hke,by rw [HT1.out],S.out.draws _⟩
             case measure => simp [intOf]; omega
         · have h1' : (src == s) = false := by simpa using h1
           obtain rfl : t1 = t0 := by rw [HT.out,if_neg (fun h => h1 h.1)]
           clear h1;go_upto_region 8 with fail
           go_quiet (fail)
           go_wp2_with fail
           go_roundw
           case rel => exact ⟨k + 1,by go_num,hke,by rw [HT1.out],S.out.draws _⟩
           case measure => simp [intOf]; omega
       · obtain rfl : k = ed.length := by omega
         have HN : Hid (toV (stepOf (ed.take ed.length)) s e = runV ed x (l.take (i + 1))) := by
          have hT : l.take (i + 1) = l.take i ++ [e] := by rw [List.take_add_one,HEV.out]; rfl
          rw [Hid,hT,runV_snoc,← HS.out,if_pos hs,List.take_length];exact (HR.out.next s e).symm
         have HN0 : Hid (toV (stepOf (ed.take ed.length)) s e = -1 ∨ 0 ≤ toV (stepOf (ed.take ed.length)) s e) := by
          rw [Hid,List.take_length];exact (HR.out.to_cases s e).imp id And.left
         obtain ⟨t1,ht1⟩ : ∃ t,toV (stepOf (ed.take ed.length)) s e = t := ⟨_,rfl⟩;rw [ht1] at HN HN0;simp only [ht1];clear ht1;go_wp2_with fail
         go_roundw
         case rel => exact ⟨i + 1,t1,rfl,by go_num,hlt,HN.out,HN0.out,S.out⟩
         case measure => simp [intOf]; omega
    · have hs' : decide (s ≥ 0) = false := decide_eq_false hs;have HF : Hid (runV ed x l = s) := by
       have h : runV ed x (l.take i ++ l.drop i) = runV ed x (l.take i) := runV_stuck ed (by rw [← HS.out]; omega);rw [List.take_append_drop] at h;exact h.trans HS.out.symm
      go_wp2_with fail
      go_ret
      exact ⟨ret_int HF.out.symm,S.out.below⟩
  · obtain rfl : i = l.length := by omega
    have hlt' : decide ((l.length : Int) < (l.length : Int)) = false := decide_eq_false (by omega);have HF : Hid (runV ed x l = s) := by rw [Hid,HS.out,List.take_length]
    go_wp2_with fail
    go_ret
    exact ⟨ret_int HF.out.symm,S.out.below⟩
set_option maxHeartbeats 4000000 in
theorem apart8_c (a : Au) (p : AuP) (AW : Option Addr) (cW : Nat) (x y : Int) (l : List Int) (w : World) (hr : a.Right) (hA : Au.At w a p) (hW : IntsAt w AW l) (hl : l.length ≤ 1000000) (hx : x = -1 ∨ 0 ≤ x) (hy : y = -1 ∨ 0 ≤ y) :
 Calls Try.prog 29 #[a.val p,.int .i64 x,.int .i64 y,.slice AW l.length cW] w (Tells (¬ Agree a a x y l) w) := by
 have HR := Lib.hid hr;have HA := Lib.hid hA;have HW := Lib.hid hW;have HX0 := Lib.hid hx;have HY0 := Lib.hid hy;obtain ⟨X,hX⟩ : ∃ X,runV a.ed x l = X := ⟨_,rfl⟩;obtain ⟨Y,hY⟩ : ∃ Y,runV a.ed y l = Y := ⟨_,rfl⟩;have gX := hr.run_out l hx;have gY := hr.run_out l hy;rw [hX] at gX;rw [hY] at gY;obtain ⟨m1,hm1⟩ : ∃ m,decide (X ∈ a.mr) = m := ⟨_,rfl⟩;obtain ⟨m2,hm2⟩ : ∃ m,decide (Y ∈ a.mr) = m := ⟨_,rfl⟩;have HAG : Hid (Agree a a x y l ↔ ((0 ≤ X ↔ 0 ≤ Y) ∧ (X ∈ a.mr ↔ Y ∈ a.mr))) := by rw [Hid,Agree,hX,hY]
 have HNM : Hid (¬ (-1 : Int) ∈ a.mr) := fun h => by have := hr.mem h; omega
 obtain ⟨al,n,mr,ed⟩ := a;obtain ⟨A1,c1,A2,c2,A3,c3⟩ := p;dsimp only [Au.val];dsimp only at hm1 hm2;have EX := Lib.hid hX;have EY := Lib.hid hY;have HM1 := Lib.hid hm1;have HM2 := Lib.hid hm2;clear hr hA hW hx hy hX hY hm1 hm2;go_enter Try.func29,Try.ntmps29
 go_upto_region 1 with fail
 refine wp_world (fun W => Sep w.heap.size w [eBlk w.heap.size 25 [.slice A1 al.length c1,.int .i64 n,.slice A2 mr.length c2,.slice A3 ed.length c3]] W) ?_ fun W S => ?_
 · exact (Sep.here w).alloc' _ [_,_,_,_] rfl rfl
 have S0 := Lib.hid S;clear S;go_cut [9,10] (fun u v wx => u = .int .i64 X ∧ v = .int .i64 Y ∧ (SepW w [eBlk w.heap.size 25 [.slice A1 al.length c1,.int .i64 n,.slice A2 mr.length c2,.slice A3 ed.length c3]] wx))
 case first =>
  have S1 := Lib.hid S0.out.drew;refine wp_region_held_drew (S := (fun V => Sep w.heap.size w [eBlk w.heap.size 25 [.slice A1 al.length c1,.int .i64 n,.slice A2 mr.length c2,.slice A3 ed.length c3]] V)) (by kernel_rfl) ?_ (fun hH => ?_)
  · exact S1.out.pick [0] (by decide)
  generalize hwz : W.drew = w1 at *;clear hwz;rw [show Array.replicate _ false = #[false,false,false,false,false,false,false,false,false,false] from rfl];refine tkH 0 rfl (v := ?_) (by kernel_rfl) ?_ hH ?_;rotate_left
  · intro V hs_;have a0 := ckC hs_ 0 rfl 0 rfl;have a1 := ckC hs_ 0 rfl 1 rfl;have a2 := ckC hs_ 0 rfl 2 rfl;have a3 := ckC hs_ 0 rfl 3 rfl;clear hs_;first | (go_simp; done) | (go_simp; with_reducible rfl)
  (try simp only [sx]);refine tkP 1 rfl (v := ?_) hH ?_;(try simp only [sx]);refine tkP 2 rfl (v := ?_) hH ?_;(try simp only [sx]);refine tkH 4 rfl (v := ?_) (by kernel_rfl) ?_ hH ?_;rotate_left
  · intro V hs_;have a0 := ckC hs_ 0 rfl 0 rfl;have a1 := ckC hs_ 0 rfl 1 rfl;have a2 := ckC hs_ 0 rfl 2 rfl;have a3 := ckC hs_ 0 rfl 3 rfl;clear hs_;first | (go_simp; done) | (go_simp; with_reducible rfl)
  (try simp only [sx]);refine tkP 5 rfl (v := ?_) hH ?_;(try simp only [sx]);refine tkP 6 rfl (v := ?_) hH ?_;(try simp only [sx]);refine act_name ?_;intro A0 hA0;obtain ⟨F,hF⟩ : ∃ F : Value → Value → Value → Value → Act,Hid (∀ x14 x18 x9 x10,F x14 x18 x9 x10 = ((((A0.put (some 14) x14).put (some 18) x18).put (some 9) x9).put (some 10) x10)) := ⟨fun x14 x18 x9 x10 => ((((A0.put (some 14) x14).put (some 18) x18).put (some 9) x9).put (some 10) x10),fun _ _ _ _ => rfl⟩;subst hA0;unfold Hid at hF
  simp only [List.getElem_toArray,List.getElem_cons_zero,List.getElem_cons_succ,Act.put,List.setIfInBounds_toArray,List.set_cons_zero,List.set_cons_succ] at hF;have HF := Lib.hid hF;clear hF;obtain ⟨INV,hI⟩ : ∃ I : Array Bool → Act → World → Prop,Hid (∀ l_ a_ W_,I l_ a_ W_ ↔ ∃ (fb3 fb7 fb8 fb9 : Bool) (x14 x18 x9 x10 : Value),l_ = #[true,true,true,fb3,true,true,true,fb7,fb8,fb9] ∧ a_ = F x14 x18 x9 x10 ∧ (SepW w [eBlk w.heap.size 25 [.slice A1 al.length c1,.int .i64 n,.slice A2 mr.length c2,.slice A3 ed.length c3]] W_) ∧ True ∧ Hid (fb7 = true → fb3 = true) ∧ Hid (fb8 = true → fb7 = true) ∧ Hid (fb9 = true → fb8 = true) ∧ Hid (fb3 = true → x14 = .int .i64 (runV ed x l)) ∧ Hid (fb7 = true → x18 = .int .i64 (runV ed y l)) ∧ Hid (fb8 = true → x9 = x14) ∧ Hid (fb9 = true → x10 = x18)) := ⟨_,fun _ _ _ => Iff.rfl⟩;refine wpAnyH_inv (INV := INV) (D := [[],[],[],[0,1,2],[],[],[],[3,4,5,6],[0,1,2,3,7],[0,1,2,3,4,5,6,7,8]]) [3,7,8,9] (by kernel_rfl) (fun l_ a_ W_ h => ?_) (fun l_ a_ W_ h => ?_) (fun l_ a_ W_ h hall => ?_) ?_ _ _ _ _ (by decide) ?_
  · obtain ⟨fb3,fb7,fb8,fb9,x14,x18,x9,x10,rfl,rfl,S_,_,mf3_7,mf7_8,mf8_9,cf3,cf7,cf8,cf9⟩ := (hI.out _ _ _).1 h;exact S_.out.pick [0] (by decide)
  · obtain ⟨fb3,fb7,fb8,fb9,x14,x18,x9,x10,rfl,rfl,S_,_,mf3_7,mf7_8,mf8_9,cf3,cf7,cf8,cf9⟩ := (hI.out _ _ _).1 h;rfl
  · obtain ⟨fb3,fb7,fb8,fb9,x14,x18,x9,x10,rfl,rfl,S_,_,mf3_7,mf7_8,mf8_9,cf3,cf7,cf8,cf9⟩ := (hI.out _ _ _).1 h;obtain rfl : fb3 = true := hall 3 (by decide);obtain rfl : fb7 = true := hall 7 (by decide);obtain rfl : fb8 = true := hall 8 (by decide);obtain rfl : fb9 = true := hall 9 (by decide);clear hall h hI INV;rw [HF.out];clear HF F;obtain rfl := cf3.out rfl;obtain rfl := cf7.out rfl;obtain rfl := cf8.out rfl;obtain rfl := cf9.out rfl;clear mf3_7 mf7_8 mf8_9 cf3 cf7 cf8 cf9;have S9 := S_;go_wp2_with fail
    go_meet
    exact ⟨by rw [EX.out],by rw [EY.out],S9.out⟩
  · clear hH S1;refine StepsI.cons rfl (fun l_ a_ W_ h hf hd K hK => ?_) (StepsI.cons rfl (fun l_ a_ W_ h hf hd K hK => ?_) (StepsI.cons rfl (fun l_ a_ W_ h hf hd K hK => ?_) (StepsI.cons rfl (fun l_ a_ W_ h hf hd K hK => ?_) (StepsI.nil))))
    · obtain ⟨fb3,fb7,fb8,fb9,x14,x18,x9,x10,rfl,rfl,S_,_,mf3_7,mf7_8,mf8_9,cf3,cf7,cf8,cf9⟩ := (hI.out _ _ _).1 h;obtain rfl : fb3 = false := hf;clear h;obtain rfl : fb7 = false := by cases fb7 with | false => rfl | true => exact nomatch (mf3_7.out rfl)
      obtain rfl : fb8 = false := by cases fb8 with | false => rfl | true => exact nomatch (mf7_8.out rfl)
      obtain rfl : fb9 = false := by cases fb9 with | false => rfl | true => exact nomatch (mf8_9.out rfl)
      clear hd;rw [HF.out];go_simp;refine (end8_c ⟨al,n,mr,ed⟩ ⟨A1,c1,A2,c2,A3,c3⟩ AW cW x l W_ HR.out (HA.out.below S_.out.below) (HW.out.below IntE.stays S_.out.below) hl HX0.out).mono ?_;rintro e_ W2 ⟨rfl,hb⟩;have S2 := Lib.hid (S_.out.next hb);clear hb;(try simp only [sx]);refine hK.out _ _ ((hI.out _ _ _).2 ⟨true,false,false,false,_,_,_,_,rfl,(HF.out _ _ _ _).symm,S2,trivial,(fun _ => rfl),(fun h => nomatch h),(fun h => nomatch h),(fun _ => rfl),(fun h => nomatch h),(fun h => nomatch h),(fun h => nomatch h)⟩)
    · obtain ⟨fb3,fb7,fb8,fb9,x14,x18,x9,x10,rfl,rfl,S_,_,mf3_7,mf7_8,mf8_9,cf3,cf7,cf8,cf9⟩ := (hI.out _ _ _).1 h;obtain rfl : fb7 = false := hf;clear h;obtain rfl : fb3 = true := hd 3 (by decide);obtain rfl : fb8 = false := by cases fb8 with | false => rfl | true => exact nomatch (mf7_8.out rfl)
      obtain rfl : fb9 = false := by cases fb9 with | false => rfl | true => exact nomatch (mf8_9.out rfl)
      clear hd;rw [HF.out];obtain rfl := cf3.out rfl;go_simp;refine (end8_c ⟨al,n,mr,ed⟩ ⟨A1,c1,A2,c2,A3,c3⟩ AW cW y l W_ HR.out (HA.out.below S_.out.below) (HW.out.below IntE.stays S_.out.below) hl HY0.out).mono ?_;rintro e_ W2 ⟨rfl,hb⟩;have S2 := Lib.hid (S_.out.next hb);clear hb;(try simp only [sx]);refine hK.out _ _ ((hI.out _ _ _).2 ⟨true,true,false,false,_,_,_,_,rfl,(HF.out _ _ _ _).symm,S2,trivial,(fun _ => rfl),(fun _ => rfl),(fun h => nomatch h),cf3,(fun _ => rfl),(fun h => nomatch h),(fun h => nomatch h)⟩)
    · obtain ⟨fb3,fb7,fb8,fb9,x14,x18,x9,x10,rfl,rfl,S_,_,mf3_7,mf7_8,mf8_9,cf3,cf7,cf8,cf9⟩ := (hI.out _ _ _).1 h;obtain rfl : fb8 = false := hf;clear h;obtain rfl : fb3 = true := hd 3 (by decide);obtain rfl : fb7 = true := hd 7 (by decide);obtain rfl : fb9 = false := by cases fb9 with | false => rfl | true => exact nomatch (mf8_9.out rfl)
      clear hd;rw [HF.out];obtain rfl := cf3.out rfl;obtain rfl := cf7.out rfl;go_simp;(try simp only [sx]);refine hK.out _ _ ((hI.out _ _ _).2 ⟨true,true,true,false,_,_,_,_,rfl,(HF.out _ _ _ _).symm,S_,trivial,(fun _ => rfl),(fun _ => rfl),(fun _ => rfl),cf3,cf7,(fun _ => rfl),(fun h => nomatch h)⟩)
    · obtain ⟨fb3,fb7,fb8,fb9,x14,x18,x9,x10,rfl,rfl,S_,_,mf3_7,mf7_8,mf8_9,cf3,cf7,cf8,cf9⟩ := (hI.out _ _ _).1 h;obtain rfl : fb9 = false := hf;clear h;obtain rfl : fb3 = true := hd 3 (by decide);obtain rfl : fb7 = true := hd 7 (by decide);obtain rfl : fb8 = true := hd 8 (by decide);clear hd;rw [HF.out];obtain rfl := cf3.out rfl;obtain rfl := cf7.out rfl;obtain rfl := cf8.out rfl;go_simp;(try simp only [sx]);refine hK.out _ _ ((hI.out _ _ _).2 ⟨true,true,true,true,_,_,_,_,rfl,(HF.out _ _ _ _).symm,S_,trivial,(fun _ => rfl),(fun _ => rfl),(fun _ => rfl),cf3,cf7,cf8,(fun _ => rfl)⟩)
  · refine (hI.out _ _ _).2 ⟨false,false,false,false,_,_,_,_,rfl,(HF.out _ _ _ _).symm,(S1.out : Sep w.heap.size w [eBlk w.heap.size 25 [.slice A1 al.length c1,.int .i64 n,.slice A2 mr.length c2,.slice A3 ed.length c3]] w1),trivial,(fun h => nomatch h),(fun h => nomatch h),(fun h => nomatch h),(fun h => nomatch h),(fun h => nomatch h),(fun h => nomatch h),(fun h => nomatch h)⟩
 case rest =>
  clear S0;obtain ⟨rfl,rfl,S1⟩ := hcut;by_cases h1 : X < 0
  · obtain rfl : X = -1 := by omega
    obtain ⟨r,hr⟩ : ∃ r,decide (Y < 0) = r := ⟨_,rfl⟩;have HRES : Hid ((((-1 : Int) != Y) && (true != r)) = true ↔ ¬ Agree ⟨al,n,mr,ed⟩ ⟨al,n,mr,ed⟩ x y l) := by
     rw [Hid,HAG.out,← hr];rcases gY with rfl | gY
     · simp
     · have e : decide (Y < 0) = false := decide_eq_false (by omega);rw [e];have e2 : ((-1 : Int) != Y) = true := by simp; omega
       rw [e2];simp; omega
    have hne : decide ((-1 : Int) < 0) = true := rfl;by_cases h3 : ((-1 : Int) != Y) = true
    · rw [h3] at HRES;have HRES2 : Hid ((!r) = true ↔ ¬ Agree ⟨al,n,mr,ed⟩ ⟨al,n,mr,ed⟩ x y l) := by
       have h := HRES.out;cases r <;> exact h
      clear HRES;go_wp2_with fail
      go_ret
      exact ⟨_,rfl,HRES2.out,S1.out.below⟩
    · have h3' : ((-1 : Int) != Y) = false := by simpa using h3
      rw [h3'] at HRES;clear h3;go_wp2_with fail
      go_ret
      exact ⟨_,rfl,HRES.out,S1.out.below⟩
  · have h1' : decide (X < 0) = false := decide_eq_false h1;by_cases h2 : Y < 0
    · have h2' : decide (Y < 0) = true := decide_eq_true h2;obtain rfl : Y = -1 := by omega
      have h3 : (X != -1) = true := by simp; omega
      have HRES : Hid ((false != true) = true ↔ ¬ Agree ⟨al,n,mr,ed⟩ ⟨al,n,mr,ed⟩ x y l) := by
       rw [Hid,HAG.out];simp; omega
      clear h1;go_wp2_with fail
      go_ret
      exact ⟨_,rfl,HRES.out,S1.out.below⟩
    · have h2' : decide (Y < 0) = false := decide_eq_false h2;have HRES : Hid ((m1 != m2) = true ↔ ¬ Agree ⟨al,n,mr,ed⟩ ⟨al,n,mr,ed⟩ x y l) := by
       rw [Hid,HAG.out,← HM1.out,← HM2.out];have g1 : 0 ≤ X := by omega
       have g2 : 0 ≤ Y := by omega
       by_cases k1 : X ∈ mr <;> by_cases k2 : Y ∈ mr <;> simp [k1,k2,g1,g2]
      clear h1 h2;go_upto_region 4 with fail
      have S2 := Lib.hid S1.out.drew;refine wp_region_held_drew (S := (fun V => Sep w.heap.size w [eBlk w.heap.size 25 [.slice A1 al.length c1,.int .i64 n,.slice A2 mr.length c2,.slice A3 ed.length c3]] V)) (by kernel_rfl) ?_ (fun hH => ?_)
      · exact S2.out.pick [0] (by decide)
      generalize hwz : wc.drew = w2 at *;clear hwz;rw [show Array.replicate _ false = #[false,false,false,false,false,false,false,false] from rfl];refine tkH 0 rfl (v := ?_) (by kernel_rfl) ?_ hH ?_;rotate_left
      · intro V hs_;have a0 := ckC hs_ 0 rfl 0 rfl;have a1 := ckC hs_ 0 rfl 1 rfl;have a2 := ckC hs_ 0 rfl 2 rfl;have a3 := ckC hs_ 0 rfl 3 rfl;clear hs_;first | (go_simp; done) | (go_simp; with_reducible rfl)
      (try simp only [sx]);refine tkP 1 rfl (v := ?_) hH ?_;(try simp only [sx]);refine tkH 3 rfl (v := ?_) (by kernel_rfl) ?_ hH ?_;rotate_left
      · intro V hs_;have a0 := ckC hs_ 0 rfl 0 rfl;have a1 := ckC hs_ 0 rfl 1 rfl;have a2 := ckC hs_ 0 rfl 2 rfl;have a3 := ckC hs_ 0 rfl 3 rfl;clear hs_;first | (go_simp; done) | (go_simp; with_reducible rfl)
      (try simp only [sx]);refine tkP 4 rfl (v := ?_) hH ?_;(try simp only [sx]);refine act_name ?_;intro A0 hA0;obtain ⟨F,hF⟩ : ∃ F : Value → Value → Value → Value → Act,Hid (∀ x37 x40 x41 x8,F x37 x40 x41 x8 = ((((A0.put (some 37) x37).put (some 40) x40).put (some 41) x41).put (some 8) x8)) := ⟨fun x37 x40 x41 x8 => ((((A0.put (some 37) x37).put (some 40) x40).put (some 41) x41).put (some 8) x8),fun _ _ _ _ => rfl⟩;subst hA0;unfold Hid at hF
      simp only [List.getElem_toArray,List.getElem_cons_zero,List.getElem_cons_succ,Act.put,List.setIfInBounds_toArray,List.set_cons_zero,List.set_cons_succ] at hF;have HF := Lib.hid hF;clear hF;obtain ⟨INV,hI⟩ : ∃ I : Array Bool → Act → World → Prop,Hid (∀ l_ a_ W_,I l_ a_ W_ ↔ ∃ (fb2 fb5 fb6 fb7 : Bool) (x37 x40 x41 x8 : Value),l_ = #[true,true,fb2,true,true,fb5,fb6,fb7] ∧ a_ = F x37 x40 x41 x8 ∧ (SepW w [eBlk w.heap.size 25 [.slice A1 al.length c1,.int .i64 n,.slice A2 mr.length c2,.slice A3 ed.length c3]] W_) ∧ True ∧ Hid (fb5 = true → fb2 = true) ∧ Hid (fb6 = true → fb5 = true) ∧ Hid (fb7 = true → fb6 = true) ∧ Hid (fb2 = true → x37 = .bool m1) ∧ Hid (fb5 = true → x40 = .bool m2) ∧ Hid (fb6 = true → x41 = .bool (m1 != m2)) ∧ Hid (fb7 = true → x8 = x41)) := ⟨_,fun _ _ _ => Iff.rfl⟩;refine wpAnyH_inv (INV := INV) (D := [[],[],[0,1],[],[],[2,3,4],[2,5],[0,1,2,3,4,5,6]]) [2,5,6,7] (by kernel_rfl) (fun l_ a_ W_ h => ?_) (fun l_ a_ W_ h => ?_) (fun l_ a_ W_ h hall => ?_) ?_ _ _ _ _ (by decide) ?_
      · obtain ⟨fb2,fb5,fb6,fb7,x37,x40,x41,x8,rfl,rfl,S_,_,mf2_5,mf5_6,mf6_7,cf2,cf5,cf6,cf7⟩ := (hI.out _ _ _).1 h;exact S_.out.pick [0] (by decide)
      · obtain ⟨fb2,fb5,fb6,fb7,x37,x40,x41,x8,rfl,rfl,S_,_,mf2_5,mf5_6,mf6_7,cf2,cf5,cf6,cf7⟩ := (hI.out _ _ _).1 h;rfl
      · obtain ⟨fb2,fb5,fb6,fb7,x37,x40,x41,x8,rfl,rfl,S_,_,mf2_5,mf5_6,mf6_7,cf2,cf5,cf6,cf7⟩ := (hI.out _ _ _).1 h;obtain rfl : fb2 = true := hall 2 (by decide);obtain rfl : fb5 = true := hall 5 (by decide);obtain rfl : fb6 = true := hall 6 (by decide);obtain rfl : fb7 = true := hall 7 (by decide);clear hall h hI INV;rw [HF.out];clear HF F;obtain rfl := cf2.out rfl;obtain rfl := cf5.out rfl;obtain rfl := cf6.out rfl;obtain rfl := cf7.out rfl;clear mf2_5 mf5_6 mf6_7 cf2 cf5 cf6 cf7;have S9 := S_;go_wp2_with fail
        go_ret
        exact ⟨_,rfl,HRES.out,S9.out.below⟩
      · clear hH S2;refine StepsI.cons rfl (fun l_ a_ W_ h hf hd K hK => ?_) (StepsI.cons rfl (fun l_ a_ W_ h hf hd K hK => ?_) (StepsI.cons rfl (fun l_ a_ W_ h hf hd K hK => ?_) (StepsI.cons rfl (fun l_ a_ W_ h hf hd K hK => ?_) (StepsI.nil))))
        · obtain ⟨fb2,fb5,fb6,fb7,x37,x40,x41,x8,rfl,rfl,S_,_,mf2_5,mf5_6,mf6_7,cf2,cf5,cf6,cf7⟩ := (hI.out _ _ _).1 h;obtain rfl : fb2 = false := hf;clear h;obtain rfl : fb5 = false := by cases fb5 with | false => rfl | true => exact nomatch (mf2_5.out rfl)
          obtain rfl : fb6 = false := by cases fb6 with | false => rfl | true => exact nomatch (mf5_6.out rfl)
          obtain rfl : fb7 = false := by cases fb7 with | false => rfl | true => exact nomatch (mf6_7.out rfl)
          clear hd;rw [HF.out];go_simp;refine (isMarked8_d ⟨al,n,mr,ed⟩ ⟨A1,c1,A2,c2,A3,c3⟩ X m1 W_ (HA.out.below S_.out.below).mr HA.out.lmk HM1.out).mono ?_;rintro e_ W2 ⟨rfl,hb⟩;have S2 := Lib.hid (S_.out.next hb);clear hb;(try simp only [sx]);refine hK.out _ _ ((hI.out _ _ _).2 ⟨true,false,false,false,_,_,_,_,rfl,(HF.out _ _ _ _).symm,S2,trivial,(fun _ => rfl),(fun h => nomatch h),(fun h => nomatch h),(fun _ => rfl),(fun h => nomatch h),(fun h => nomatch h),(fun h => nomatch h)⟩)
        · obtain ⟨fb2,fb5,fb6,fb7,x37,x40,x41,x8,rfl,rfl,S_,_,mf2_5,mf5_6,mf6_7,cf2,cf5,cf6,cf7⟩ := (hI.out _ _ _).1 h;obtain rfl : fb5 = false := hf;clear h;obtain rfl : fb2 = true := hd 2 (by decide);obtain rfl : fb6 = false := by cases fb6 with | false => rfl | true => exact nomatch (mf5_6.out rfl)
          obtain rfl : fb7 = false := by cases fb7 with | false => rfl | true => exact nomatch (mf6_7.out rfl)
          clear hd;rw [HF.out];obtain rfl := cf2.out rfl;go_simp;refine (isMarked8_d ⟨al,n,mr,ed⟩ ⟨A1,c1,A2,c2,A3,c3⟩ Y m2 W_ (HA.out.below S_.out.below).mr HA.out.lmk HM2.out).mono ?_;rintro e_ W2 ⟨rfl,hb⟩;have S2 := Lib.hid (S_.out.next hb);clear hb;(try simp only [sx]);refine hK.out _ _ ((hI.out _ _ _).2 ⟨true,true,false,false,_,_,_,_,rfl,(HF.out _ _ _ _).symm,S2,trivial,(fun _ => rfl),(fun _ => rfl),(fun h => nomatch h),cf2,(fun _ => rfl),(fun h => nomatch h),(fun h => nomatch h)⟩)
        · obtain ⟨fb2,fb5,fb6,fb7,x37,x40,x41,x8,rfl,rfl,S_,_,mf2_5,mf5_6,mf6_7,cf2,cf5,cf6,cf7⟩ := (hI.out _ _ _).1 h;obtain rfl : fb6 = false := hf;clear h;obtain rfl : fb2 = true := hd 2 (by decide);obtain rfl : fb5 = true := hd 5 (by decide);obtain rfl : fb7 = false := by cases fb7 with | false => rfl | true => exact nomatch (mf6_7.out rfl)
          clear hd;rw [HF.out];obtain rfl := cf2.out rfl;obtain rfl := cf5.out rfl;go_simp;(try simp only [sx]);refine hK.out _ _ ((hI.out _ _ _).2 ⟨true,true,true,false,_,_,_,_,rfl,(HF.out _ _ _ _).symm,S_,trivial,(fun _ => rfl),(fun _ => rfl),(fun _ => rfl),cf2,cf5,(fun _ => rfl),(fun h => nomatch h)⟩)
        · obtain ⟨fb2,fb5,fb6,fb7,x37,x40,x41,x8,rfl,rfl,S_,_,mf2_5,mf5_6,mf6_7,cf2,cf5,cf6,cf7⟩ := (hI.out _ _ _).1 h;obtain rfl : fb7 = false := hf;clear h;obtain rfl : fb2 = true := hd 2 (by decide);obtain rfl : fb5 = true := hd 5 (by decide);obtain rfl : fb6 = true := hd 6 (by decide);clear hd;rw [HF.out];obtain rfl := cf2.out rfl;obtain rfl := cf5.out rfl;obtain rfl := cf6.out rfl;go_simp;(try simp only [sx]);refine hK.out _ _ ((hI.out _ _ _).2 ⟨true,true,true,true,_,_,_,_,rfl,(HF.out _ _ _ _).symm,S_,trivial,(fun _ => rfl),(fun _ => rfl),(fun _ => rfl),cf2,cf5,cf6,(fun _ => rfl)⟩)
      · refine (hI.out _ _ _).2 ⟨false,false,false,false,_,_,_,_,rfl,(HF.out _ _ _ _).symm,(S2.out : Sep w.heap.size w [eBlk w.heap.size 25 [.slice A1 al.length c1,.int .i64 n,.slice A2 mr.length c2,.slice A3 ed.length c3]] w2),trivial,(fun h => nomatch h),(fun h => nomatch h),(fun h => nomatch h),(fun h => nomatch h),(fun h => nomatch h),(fun h => nomatch h),(fun h => nomatch h)⟩

end
theorem Sm4.need {d : Sm4} (h : d.Ok) : (d.au.n.toNat + 2) * (d.au.n.toNat + 2) ≤ 1000000 := by
 have h1 := d.n_rg h;have e : d.au.n.toNat + 2 ≤ 8 := by
  show (d.n : Int).toNat + 2 ≤ 8
  omega
 exact Nat.le_trans (Nat.mul_le_mul e e) (by decide)
end Go.Proofs.Ytjjifefanjnghaa
