/-
  What the row leans on.
-/
import Derived.Test.YtjjifefanjnghaaJfx06
import Derived.Test.YtjjifefanjnghaaBas08
import Derived.Test.YtjjifefanjnghaaBas09
import Derived.Test.YtjjifefanjnghaaJfx01
import Derived.Test.YtjjifefanjnghaaBas10
import Derived.Test.YtjjifefanjnghaaJfx03
import Derived.Deep.RegionHeld3
import Derived.Test.YtjjifefanjnghaaBas03
set_option linter.unusedSimpArgs false
set_option linter.unusedVariables false
namespace Go.Proofs.Ytjjifefanjnghaa
open Go.RowKit
set_option maxRecDepth 100000
set_option maxHeartbeats 800000 in
theorem next8_c (a : Au) (p : AuP) (s ev : Int) (w : World) (h3 : EdsAt w p.A3 a.ed) (l3 : a.ed.length ≤ 140737488355328) :
 Calls Try.prog 44 #[a.val p,.int .i64 s,.int .i64 ev] w (Ret (.int .i64 (nextV a.ed s ev)) w) := by
 obtain ⟨al,n,mr,ed⟩ := a;obtain ⟨A1,c1,A2,c2,A3,c3⟩ := p;(try dsimp only [Au.val] at *);have B0 := Lib.hid (Below.new w (.cells #[.slice A1 al.length c1,.int .i64 n,.slice A2 mr.length c2,.slice A3 ed.length c3] 25));have HE := Lib.hid (h3.below EdE.stays B0.out);have q3 : (w.alloc (.cells #[.slice A1 al.length c1,.int .i64 n,.slice A2 mr.length c2,.slice A3 ed.length c3] 25)).cell? ⟨w.heap.size,3,none⟩ = some (.slice A3 ed.length c3) := new_cell w _ [_,_,_,_] _ 3 rfl;clear h3;go_enter Try.func44,Try.ntmps44
 go_wp2_with fail
 generalize hW : w.alloc (.cells #[.slice A1 al.length c1,.int .i64 n,.slice A2 mr.length c2,.slice A3 ed.length c3] 25) = W at *;clear hW;go_loop [7] (fun i => ∃ k : Nat,k ≤ ed.length ∧ i = .int .i64 k ∧ Hid (∀ j y,j < k → ed[j]? = some y → ¬ (y.src = s ∧ y.ev = ev))) (fun i => ed.length - (intOf i).toNat)
 case atStart => exact ⟨0,by omega,rfl,fun i x h => absurd h (by omega)⟩
 case round =>
  obtain ⟨k,hk,rfl,H⟩ := hrel;by_cases hlt : k < ed.length
  · obtain ⟨b,off,x,rfl,_,hx,hc0,hc1,hc2⟩ := EdsAt.at HE.out hlt;obtain ⟨src,e',dst⟩ := x;dsimp only at hc0 hc1 hc2;have HX := Lib.hid hx;clear hx;by_cases h1 : src = s
    · have h1' : (src == s) = true := by simpa using h1
      have H1 := Lib.hid h1;clear h1;by_cases h2 : e' = ev
      · have h2' : (e' == ev) = true := by simpa using h2
        have H2 := Lib.hid h2;clear h2;go_wp2
        go_ret
        exact ⟨ret_int (nextV_hit H.out HX.out H1.out H2.out).symm,B0.out⟩
      · have h2' : (e' == ev) = false := by simpa using h2
        have H2 := Lib.hid h2;clear h2;go_wp2
        go_round
        case rel => exact ⟨k + 1,by omega,by go_num,fun j z hj hz => by
         by_cases e : j = k
         · subst e; rw [HX.out] at hz; cases hz; exact fun h => H2.out h.2
         · exact H.out j z (by omega) hz⟩
        case measure => simp [intOf]; omega
    · have h1' : (src == s) = false := by simpa using h1
      have H1 := Lib.hid h1;clear h1;go_wp2
      go_round
      case rel => exact ⟨k + 1,by omega,by go_num,fun j z hj hz => by
       by_cases e : j = k
       · subst e; rw [HX.out] at hz; cases hz; exact fun h => H1.out h.1
       · exact H.out j z (by omega) hz⟩
      case measure => simp [intOf]; omega
  · obtain rfl : k = ed.length := by omega
    go_wp2
    go_ret
    exact ⟨ret_int (nextV_miss H.out).symm,B0.out⟩

theorem marked8_c (a : Au) (p : AuP) (s : Int) (w : World) (h2 : IntsAt w p.A2 a.mr) (l2 : a.mr.length ≤ 140737488355328) :
 Calls Try.prog 43 #[a.val p,.int .i64 s] w (Tells (s ∈ a.mr) w) := by
 obtain ⟨al,n,mr,ed⟩ := a;obtain ⟨A1,c1,A2,c2,A3,c3⟩ := p;(try dsimp only [Au.val] at *);have B0 := Lib.hid (Below.new w (.cells #[.slice A1 al.length c1,.int .i64 n,.slice A2 mr.length c2,.slice A3 ed.length c3] 25));have HE := Lib.hid (h2.below IntE.stays B0.out);have q2 : (w.alloc (.cells #[.slice A1 al.length c1,.int .i64 n,.slice A2 mr.length c2,.slice A3 ed.length c3] 25)).cell? ⟨w.heap.size,2,none⟩ = some (.slice A2 mr.length c2) := new_cell w _ [_,_,_,_] _ 2 rfl;clear h2;go_enter Try.func43,Try.ntmps43
 go_wp2_with fail
 generalize hW : w.alloc (.cells #[.slice A1 al.length c1,.int .i64 n,.slice A2 mr.length c2,.slice A3 ed.length c3] 25) = W at *;clear hW;go_loop [5] (fun i => ∃ k : Nat,k ≤ mr.length ∧ i = .int .i64 k ∧ Hid (∀ j y,j < k → mr[j]? = some y → y ≠ s)) (fun i => mr.length - (intOf i).toNat)
 case atStart => exact ⟨0,by omega,rfl,fun i x h => absurd h (by omega)⟩
 case round =>
  obtain ⟨k,hk,rfl,H⟩ := hrel;by_cases hlt : k < mr.length
  · obtain ⟨b,off,y,rfl,_,hy,hcy⟩ := IntsAt.at HE.out hlt;by_cases hyx : y = s
    · have HM := Lib.hid (List.mem_of_getElem? hy);have hyx' : (y == s) = true := by simpa using hyx
      have HYX := Lib.hid hyx;clear hy hyx;go_wp2
      go_ret
      exact ⟨true,rfl,⟨fun _ => HYX.out ▸ HM.out,fun _ => rfl⟩,B0.out⟩
    · have hyx' : (y == s) = false := by simpa using hyx
      have HYX := Lib.hid hyx;have HY := Lib.hid hy;clear hyx hy;go_wp2
      go_round
      case rel => exact ⟨k + 1,by omega,by go_num,fun j z hj hz => by
       by_cases e : j = k
       · subst e; rw [HY.out] at hz; cases hz; exact HYX.out
       · exact H.out j z (by omega) hz⟩
      case measure => simp [intOf]; omega
  · obtain rfl : k = mr.length := by omega
    have HN : Hid (¬ s ∈ mr) := notIn_all H.out;go_wp2
    go_ret
    exact ⟨false,rfl,⟨fun h => by (cases h),fun h => absurd h HN.out⟩,B0.out⟩
section

structure Pw where
 x : Int
 y : Int
 w : List Int
def Pw.pr (p : Pw) : Int × Int := (p.x,p.y)
theorem Bfs.shortW {α : Type} {stp : α → Int → α} {s0 : α} {dead : α → Prop} {evs : List Int} {i k : Nat} {vs : List α} {ws : List (List Int)} (h : Bfs stp s0 dead evs i k vs ws) : ∀ (j : Nat) (w : List Int),ws[j]? = some w → w.length ≤ j := by
 intro j;induction j using Nat.strongRecOn with
 | ind j ih =>
   intro w hw;by_cases h0 : j = 0
   · subst h0; rw [h.zw] at hw; cases hw; simp
   · obtain ⟨b,u,e,_,hb,hu,rfl⟩ := h.pre j w (by omega) hw;have := ih b hb u hu;simp; omega
structure LInv (a b : Au) (s0 : Int × Int) (i k t : Nat) (l : List Pw) : Prop where
 bfs : Bfs (stp2 a b) s0 dead2 ev32 i k (l.map Pw.pr) (l.map Pw.w)
 nd : (l.map Pw.pr).Nodup
 rg : ∀ v,v ∈ l → -1 ≤ v.x ∧ v.x < a.n ∧ -1 ≤ v.y ∧ v.y < b.n
 al : ∀ v,v ∈ l → v.pr ≠ (-1,-1)
 no : ∀ (j : Nat) v,j < t → (l.map Pw.pr)[j]? = some v → pdV a b v = false
section
variable {a b : Au} {s0 : Int × Int} {i k t : Nat} {l : List Pw}
theorem LInv.start (x y : Int) (hx : -1 ≤ x ∧ x < a.n) (hy : -1 ≤ y ∧ y < b.n) (hd : (x,y) ≠ (-1,-1)) : LInv a b (x,y) 0 0 0 [⟨x,y,[]⟩] :=
 ⟨Bfs.start,by simp,fun v hv => by
  simp at hv; subst hv
  simp only; omega,fun v hv => by
  simp at hv; subst hv; exact hd,fun j v h => absurd h (by omega)⟩
theorem LInv.len (h : LInv a b s0 i k t l) (ha : a.Right) (hb : b.Right) : l.length ≤ (a.n.toNat + 2) * (b.n.toNat + 2) := by
 have h1 := nodup_lenN ((a.n.toNat + 2) * (b.n.toNat + 2)) ((l.map Pw.pr).map fun q => (q.1 + 1).toNat * (b.n.toNat + 2) + (q.2 + 1).toNat) ?_ ?_
 · simpa using h1
 · rw [List.nodup_iff_pairwise_ne,List.pairwise_map];refine List.Pairwise.imp_of_mem ?_ (List.nodup_iff_pairwise_ne.1 h.nd);intro p q hp hq hne hc;obtain ⟨v,hv,rfl⟩ := List.mem_map.1 hp;obtain ⟨u,hu,rfl⟩ := List.mem_map.1 hq;have r1 := h.rg v hv;have r2 := h.rg u hu;have n1 := hb.n0;simp only [Pw.pr] at hc hne;have e2 : (v.y + 1).toNat < b.n.toNat + 2 := by omega
   have e3 : (u.y + 1).toNat < b.n.toNat + 2 := by omega
   have e4 : (v.x + 1).toNat = (u.x + 1).toNat := by
    have m1 := Nat.div_eq_of_lt e2;have m2 := Nat.div_eq_of_lt e3;have := congrArg (· / (b.n.toNat + 2)) hc;rw [Nat.mul_comm,Nat.mul_add_div (by omega),m1,Nat.mul_comm,Nat.mul_add_div (by omega),m2] at this;omega
   rw [e4] at hc;exact hne (by rw [Prod.mk.injEq]; omega)
 · intro x hx;obtain ⟨q,hq,rfl⟩ := List.mem_map.1 hx;obtain ⟨v,hv,rfl⟩ := List.mem_map.1 hq;have r1 := h.rg v hv;have n0 := ha.n0;have n1 := hb.n0;simp only [Pw.pr];have e1 : (v.x + 1).toNat + 1 ≤ a.n.toNat + 2 := by omega
   have e2 : (v.y + 1).toNat < b.n.toNat + 2 := by omega
   have := Nat.mul_le_mul_right (b.n.toNat + 2) e1;rw [Nat.succ_mul] at this;omega
theorem LInv.word (h : LInv a b s0 i k t l) {j : Nat} {p : Pw} (hp : l[j]? = some p) : p.w.length ≤ j := h.bfs.shortW j p.w (by rw [List.getElem?_map,hp]; rfl)
theorem LInv.skip (h : LInv a b s0 i k t l) {v : Pw} (hv : l[i]? = some v) (hk : k < 32) (hs : stp2 a b v.pr (k : Int) = (-1,-1) ∨ stp2 a b v.pr (k : Int) ∈ l.map Pw.pr) : LInv a b s0 i (k + 1) t l :=
 ⟨h.bfs.skip ev32_incr (v := v.pr) (by rw [List.getElem?_map,hv]; rfl) (ev32_get hk) (hs.imp id fun g => by
  obtain ⟨j,hj,e⟩ := List.mem_iff_getElem.1 g;exact ⟨j,by rw [List.getElem?_eq_getElem hj,e]⟩),h.nd,h.rg,h.al,h.no⟩
theorem LInv.push (ha : a.Right) (hb : b.Right) (h : LInv a b s0 i k t l) (ht : t ≤ l.length) {v : Pw} (hv : l[i]? = some v) (hk : k < 32) (h1 : ¬ stp2 a b v.pr (k : Int) = (-1,-1)) (h2 : ¬ stp2 a b v.pr (k : Int) ∈ l.map Pw.pr) :
 LInv a b s0 i (k + 1) t (l ++ [⟨(stp2 a b v.pr (k : Int)).1,(stp2 a b v.pr (k : Int)).2,v.w ++ [(k : Int)]⟩]) := by
 have hv' : (l.map Pw.pr)[i]? = some v.pr := by rw [List.getElem?_map,hv]; rfl
 have hw' : (l.map Pw.w)[i]? = some v.w := by rw [List.getElem?_map,hv]; rfl
 refine ⟨?_,?_,fun u hu => ?_,fun u hu => ?_,fun j u hj hu => ?_⟩
 · rw [List.map_append,List.map_append];exact h.bfs.push ev32_incr hv' (ev32_get hk) hw'
 · rw [List.map_append];refine List.nodup_append.2 ⟨h.nd,by simp,fun p hp q hq => ?_⟩;simp at hq
   rintro rfl;refine h2 ?_;rw [hq] at hp;exact hp
 · rcases List.mem_append.1 hu with g | g
   · exact h.rg u g
   · simp at g; subst g
     have := ha.to_cases v.x k;have := hb.to_cases v.y k;have := ha.n0;have := hb.n0;simp only [stp2,Pw.pr];omega
 · rcases List.mem_append.1 hu with g | g
   · exact h.al u g
   · simp at g; subst g
     intro hc;exact h1 (by rw [← hc]; simp [Pw.pr])
 · rw [List.map_append,List.getElem?_append_left (by simp; omega)] at hu;exact h.no j u hj hu
theorem LInv.next (h : LInv a b s0 i 32 t l) : LInv a b s0 (i + 1) 0 t l := ⟨Bfs.next (by rw [ev32_len]; exact h.bfs),h.nd,h.rg,h.al,h.no⟩
theorem LInv.test (h : LInv a b s0 i k i l) {v : Pw} (hv : l[i]? = some v) (hp : pdV a b v.pr = false) : LInv a b s0 i k (i + 1) l :=
 ⟨h.bfs,h.nd,h.rg,h.al,fun j u hj hu => by
  by_cases e : j = i
  · subst e;rw [List.getElem?_map,hv] at hu;cases hu; exact hp
  · exact h.no j u (by omega) hu⟩
theorem LInv.least (ha : a.Right) (hb : b.Right) (h : LInv a b s0 i k i l) {v : Pw} (hv : l[i]? = some v) (hp : pdV a b v.pr = true) : LeastW (LeadsTo (stp2 a b) s0 ev32 (fun q => pdV a b q = true)) v.w :=
 h.bfs.least (dead2_step ha hb) (P := fun q => pdV a b q = true) (fun s hs => by unfold dead2 at hs; subst hs; simp [pdV_dead]) (fun j u hj hu => by rw [h.no j u hj hu]; simp) (show (l.map Pw.pr)[i]? = some v.pr by rw [List.getElem?_map,hv]; rfl) (show (l.map Pw.w)[i]? = some v.w by rw [List.getElem?_map,hv]; rfl) hp
theorem LInv.none_ (ha : a.Right) (hb : b.Right) (h : LInv a b s0 l.length k l.length l) (u : List Int) : ¬ LeadsTo (stp2 a b) s0 ev32 (fun q => pdV a b q = true) u :=
 h.bfs.none_ (dead2_step ha hb) (P := fun q => pdV a b q = true) (fun s hs => by unfold dead2 at hs; subst hs; simp [pdV_dead]) (by simp) (fun j v hv => by
  have hj := (List.getElem?_eq_some_iff.1 hv).1;rw [h.no j v (by simpa using hj) hv]; simp) u
end
theorem stp2_out {a b : Au} (ha : a.Right) (hb : b.Right) (s : Int × Int) (e : Int) (h : ¬ e ∈ unionS a.al b.al) : stp2 a b s e = (-1,-1) := by
 have f : ∀ c : Au,c.Right → ¬ e ∈ c.al → ∀ t,toV (stepOf c.ed) t e = -1 := fun c hc hn t => by
  rw [← hc.next];rcases hc.next_cases t e with g | ⟨_,_,x,hx,_,x2,_⟩
  · exact g
  · obtain ⟨j,hj,hjx⟩ := List.mem_iff_getElem.1 hx;have := (hc.ed j hj x (by rw [List.getElem?_eq_getElem hj,hjx])).2.2.2.2.1;rw [x2] at this;exact absurd this hn
 simp only [stp2];rw [f a ha (fun g => h (mem_unionS.2 (.inl g))),f b hb (fun g => h (mem_unionS.2 (.inr g)))]
theorem fold_dead {a b : Au} (ha : a.Right) (hb : b.Right) : ∀ (w : List Int),w.foldl (stp2 a b) (-1,-1) = (-1,-1)
 | [] => rfl
 | e :: w => by
   rw [List.foldl_cons,dead2_step ha hb (-1,-1) e rfl];exact fold_dead ha hb w
theorem leads_iff {a b : Au} (ha : a.Right) (hb : b.Right) (s0 : Int × Int) (w : List Int) : LeadsTo (stp2 a b) s0 ev32 (fun q => pdV a b q = true) w ↔ LeadsTo (stp2 a b) s0 (unionS a.al b.al) (fun q => pdV a b q = true) w := by
 have key : ∀ (w : List Int) (s : Int × Int),pdV a b (w.foldl (stp2 a b) s) = true → ∀ e,e ∈ w → e ∈ unionS a.al b.al := by
  intro w;induction w with
  | nil => intro s _ e he; cases he
  | cons x r ih =>
    intro s h e he;rw [List.foldl_cons] at h;rcases List.mem_cons.1 he with rfl | g
    · by_cases hm : e ∈ unionS a.al b.al
      · exact hm
      · rw [stp2_out ha hb s e hm,fold_dead ha hb,pdV_dead] at h;cases h
    · exact ih _ h e g
 constructor
 · rintro ⟨_,h2⟩;exact ⟨key w s0 h2,h2⟩
 · rintro ⟨h1,h2⟩;refine ⟨fun e he => ?_,h2⟩;have := mem_unionS.1 (h1 e he);have r : ∀ c : Au,c.Right → e ∈ c.al → 0 ≤ e ∧ e < 32 := fun c hc hm => hc.al.rg e hm;have hr : 0 ≤ e ∧ e < 32 := this.elim (r a ha) (r b hb);unfold ev32
   exact List.mem_map.2 ⟨e.toNat,List.mem_range.2 (by omega),by omega⟩
theorem DistW.uniq {a b : Au} {x y : Int} {f g : Bool} {l m : List Int} (h : DistW a b x y f l) (k : DistW a b x y g m) : f = g ∧ l = m := by
 rcases h with ⟨rfl,h⟩ | ⟨rfl,rfl,h⟩
 · rcases k with ⟨rfl,k⟩ | ⟨rfl,rfl,k⟩
   · exact ⟨rfl,h.uniq k⟩
   · exact absurd h.is (k _)
 · rcases k with ⟨rfl,k⟩ | ⟨rfl,rfl,k⟩
   · exact absurd k.is (h _)
   · exact ⟨rfl,rfl⟩
end
def Agree (a b : Au) (x y : Int) (w : List Int) : Prop := (0 ≤ runV a.ed x w ↔ 0 ≤ runV b.ed y w) ∧ (runV a.ed x w ∈ a.mr ↔ runV b.ed y w ∈ b.mr)
theorem Au.Right.run_out {a : Au} (h : a.Right) (w : List Int) {s : Int} (hs : s = -1 ∨ 0 ≤ s) : runV a.ed s w = -1 ∨ 0 ≤ runV a.ed s w := by
 rcases hs with rfl | hs
 · exact .inl (runV_neg _ (by decide) w)
 · exact h.run_cases w s hs
theorem next_dead {a : Au} (h : a.Right) (e : Int) : toV (stepOf a.ed) (-1) e = -1 := by
 have h2 : stp2 a a (-1,-1) e = (-1,-1) := dead2_step h h (-1,-1) e rfl;exact (Prod.mk.inj h2).1
theorem fold2 {a b : Au} (ha : a.Right) (hb : b.Right) : ∀ (w : List Int) (x y : Int),x = -1 ∨ 0 ≤ x → y = -1 ∨ 0 ≤ y → w.foldl (stp2 a b) (x,y) = (runV a.ed x w,runV b.ed y w)
 | [],x,y,_,_ => rfl
 | e :: w,x,y,hx,hy => by
   have f : ∀ c : Au,c.Right → ∀ t,t = -1 ∨ 0 ≤ t → runV c.ed (toV (stepOf c.ed) t e) w = runV c.ed t (e :: w) := fun c hc t ht => by
    rcases ht with rfl | ht
    · rw [next_dead hc e,runV_neg _ (by decide),runV_neg _ (by decide)]
    · rw [runV_cons ht,hc.next]
   have g : ∀ c : Au,c.Right → ∀ t,toV (stepOf c.ed) t e = -1 ∨ 0 ≤ toV (stepOf c.ed) t e := fun c hc t => (hc.to_cases t e).imp id And.left;rw [List.foldl_cons];show w.foldl (stp2 a b) (toV (stepOf a.ed) x e,toV (stepOf b.ed) y e) = _
   rw [fold2 ha hb w _ _ (g a ha x) (g b hb y),f a ha x hx,f b hb y hy]
theorem pd_over {a b : Au} (ha : a.Right) (hb : b.Right) : ∀ (w : List Int) (s : Int × Int),pdV a b (w.foldl (stp2 a b) s) = true → ∀ e,e ∈ w → e ∈ unionS a.al b.al
 | [],s,_,e,he => by cases he
 | x :: r,s,h,e,he => by
   rw [List.foldl_cons] at h;rcases List.mem_cons.1 he with rfl | g
   · by_cases hm : e ∈ unionS a.al b.al
     · exact hm
     · rw [stp2_out ha hb s e hm,fold_dead ha hb,pdV_dead] at h;cases h
   · exact pd_over ha hb r _ h e g
theorem pdV_agree {a b : Au} (ha : a.Right) (hb : b.Right) {r s : Int} (hr : r = -1 ∨ 0 ≤ r) (hs : s = -1 ∨ 0 ≤ s) : pdV a b (r,s) = true ↔ ¬ ((0 ≤ r ↔ 0 ≤ s) ∧ (r ∈ a.mr ↔ s ∈ b.mr)) := by
 have m : ∀ c : Au,c.Right → ¬ (-1 : Int) ∈ c.mr := fun c hc h => by have := hc.mem h; omega
 have ma := m a ha;have mb := m b hb;unfold pdV
 rcases hr with rfl | hr <;> rcases hs with rfl | hs
 · simp [ma,mb]
 · have e : ¬ (((-1 : Int),s) = (-1,-1)) := fun h => by have := (Prod.mk.inj h).2; omega
   rw [if_neg e];simp only [decide_true,Bool.true_or,true_iff];exact fun h => by have := h.1.2 hs; omega
 · have e : ¬ ((r,(-1 : Int)) = (-1,-1)) := fun h => by have := (Prod.mk.inj h).1; omega
   rw [if_neg e];simp only [decide_true,Bool.or_true,Bool.true_or,true_iff];exact fun h => by have := h.1.1 hr; omega
 · have e : ¬ ((r,s) = (-1,-1)) := fun h => by have := (Prod.mk.inj h).1; omega
   rw [if_neg e];have e1 : decide (r = -1) = false := decide_eq_false (by omega);have e2 : decide (s = -1) = false := decide_eq_false (by omega);simp only [e1,e2,Bool.false_or];by_cases h1 : r ∈ a.mr <;> by_cases h2 : s ∈ b.mr <;> simp [h1,h2,hr,hs]
theorem leads_tell {a b : Au} (ha : a.Right) (hb : b.Right) {x y : Int} (hx : x = -1 ∨ 0 ≤ x) (hy : y = -1 ∨ 0 ≤ y) (w : List Int) : LeadsTo (stp2 a b) (x,y) (unionS a.al b.al) (fun q => pdV a b q = true) w ↔ ¬ Agree a b x y w := by
 have h := pdV_agree ha hb (ha.run_out w hx) (hb.run_out w hy);have h2 := fold2 ha hb w x y hx hy;constructor
 · rintro ⟨_,h1⟩;have h1 : pdV a b (w.foldl (stp2 a b) (x,y)) = true := h1;rw [h2] at h1;exact h.1 h1
 · intro h1;have h3 : pdV a b (w.foldl (stp2 a b) (x,y)) = true := by rw [h2]; exact h.2 h1
   exact ⟨pd_over ha hb w _ h3,h3⟩
theorem DistW.cases {a b : Au} (ha : a.Right) (hb : b.Right) {x y : Int} (hx : x = -1 ∨ 0 ≤ x) (hy : y = -1 ∨ 0 ≤ y) {f : Bool} {l : List Int} (h : DistW a b x y f l) : f = true ∧ LeastW (fun w => ¬ Agree a b x y w) l ∨ f = false ∧ l = [] ∧ ∀ u,Agree a b x y u := by
 rcases h with ⟨h1,h2⟩ | ⟨h1,h2,h3⟩
 · exact .inl ⟨h1,h2.congr (fun w => leads_tell ha hb hx hy w)⟩
 · exact .inr ⟨h1,h2,fun u => Classical.byContradiction fun g => h3 u ((leads_tell ha hb hx hy u).2 g)⟩
section
section
variable {a b : Au}
theorem au_eq (h : a.Right) (k : b.Right) (hal : a.al = b.al) (hn : a.n = b.n) (hrn : ∀ w,rn a w = rn b w) (hget0 : ∀ s : Int,0 ≤ s → s < a.n → ∃ w,rn a w = s) (hmk : ∀ w,rn a w ∈ a.mr ↔ rn b w ∈ b.mr) : a = b := by
 have hget : ∀ s : Int,0 ≤ s → s < a.n → ∃ w,rn a w = s ∧ rn b w = s := fun s h0 h1 => by
  obtain ⟨w,hw⟩ := hget0 s h0 h1;exact ⟨w,hw,by rw [← hrn]; exact hw⟩
 have hmr : a.mr = b.mr := by
  refine Rises.ext (R := fun x y : Int => x < y) (fun x => by omega) (fun x y => by omega) h.mr.incr k.mr.incr fun x => ⟨fun hx => ?_,fun hx => ?_⟩
  · obtain ⟨w,e1,e2⟩ := hget x (h.mem hx).1 (h.mem hx).2;rw [← e2];exact (hmk w).1 (by rw [e1]; exact hx)
  · obtain ⟨w,e1,e2⟩ := hget x (k.mem hx).1 (by rw [hn]; exact (k.mem hx).2);rw [← e1];exact (hmk w).2 (by rw [e2]; exact hx)
 have hnx : ∀ s e : Int,0 ≤ s → s < a.n → nextV a.ed s e = nextV b.ed s e := by
  intro s e h0 h1;obtain ⟨w,e1,e2⟩ := hget s h0 h1;have := hrn (w ++ [e]);rw [rn_snoc a w e (by omega),rn_snoc b w e (by omega),e1,e2] at this;exact this
 have edg : ∀ {c : Au},c.Right → ∀ {x : Ed},x ∈ c.ed → nextV c.ed x.src x.ev = x.dst ∧ 0 ≤ x.src ∧ x.src < c.n ∧ 0 ≤ x.dst := by
  intro c hc x hx;obtain ⟨j,hj,hjx⟩ := List.mem_iff_getElem.1 hx;have := hc.ed j hj x (by rw [List.getElem?_eq_getElem hj,hjx]);refine ⟨?_,this.1,this.2.1,this.2.2.1⟩;unfold nextV
  cases hf : c.ed.find? (fun y => decide (y.src = x.src) && decide (y.ev = x.ev)) with
  | none =>
    rw [List.find?_eq_none] at hf;have := hf x hx;simp at this
  | some y =>
    have h1 := List.mem_of_find?_eq_some hf;have h2 := List.find?_some hf;simp only [Bool.and_eq_true,decide_eq_true_eq] at h2;rw [hc.uniq h1 hx h2.1 h2.2];rfl
 have back : ∀ {c d : Au},c.Right → d.Right → (∀ s e : Int,0 ≤ s → s < c.n → nextV c.ed s e = nextV d.ed s e) → ∀ x,x ∈ c.ed → x ∈ d.ed := by
  intro c d hc hd he x hx;obtain ⟨h1,h2,h3,h4⟩ := edg hc hx;rw [he _ _ h2 h3] at h1;rcases hd.next_cases x.src x.ev with g | ⟨_,_,y,hy,y1,y2,y3⟩
  · omega
  · obtain rfl : y = x := by
     obtain ⟨p,q,r⟩ := x;obtain ⟨p',q',r'⟩ := y;simp only at y1 y2 y3 h1
     rw [y1,y2,y3,h1]
    exact hy
 have hed : a.ed = b.ed := by
  refine Rises.ext (R := edLt) (fun x h => by unfold edLt at h; omega) (fun x y h h' => by unfold edLt at h h'; omega) h.rises k.rises fun x => ⟨back h k hnx x,back k h (fun s e h0 h1 => (hnx s e h0 (by rw [hn]; exact h1)).symm) x⟩
 obtain ⟨al,n,mr,ed⟩ := a;obtain ⟨al',n',mr',ed'⟩ := b;simp only at hal hn hmr hed
 rw [hal,hn,hmr,hed]
def AlikG (G L : List Int → Prop) (u v : List Int) : Prop := ∀ x,(G (u ++ x) ↔ G (v ++ x)) ∧ (L (u ++ x) ↔ L (v ++ x))
def FstG (G L : List Int → Prop) (w : List Int) : Prop := G w ∧ ∀ v,G v → AlikG G L v w → sle w v
structure MinG (m : Au) (G L : List Int → Prop) : Prop where
 rt : m.Right
 num : Num m.ed m.n
 gen : ∀ w,0 ≤ rn m w ↔ G w
 mkd : ∀ w,rn m w ∈ m.mr ↔ L w
 ds : ∀ i j : Int,0 ≤ i → i < m.n → 0 ≤ j → j < m.n → Eqv m i j → i = j
theorem MinG.alik {m : Au} {G L : List Int → Prop} (h : MinG m G L) {u v : List Int} (hu : 0 ≤ rn m u) (hv : 0 ≤ rn m v) : rn m u = rn m v ↔ AlikG G L u v := by
 constructor
 · intro e x;rw [← h.gen,← h.gen,← h.mkd,← h.mkd,rn_app,rn_app,e];exact ⟨Iff.rfl,Iff.rfl⟩
 · intro e;rcases h.rt.rn_cases u with k | k
   · omega
   rcases h.rt.rn_cases v with k' | k'
   · omega
   refine h.ds _ _ k.1 k.2 k'.1 k'.2 fun w => ?_;have := e w;rw [← h.gen,← h.gen,← h.mkd,← h.mkd,rn_app,rn_app] at this;exact this
theorem MinG.fst {m : Au} {G L : List Int → Prop} (h : MinG m G L) {ws : List (List Int)} (hl : ws.length = m.n.toNat) (hw : ∀ (i : Nat) (w : List Int),ws[i]? = some w → LeastW (fun v => rn m v = (i : Int)) w) (w : List Int) : w ∈ ws ↔ FstG G L w := by
 constructor
 · intro hm;obtain ⟨i,hi,rfl⟩ := List.mem_iff_getElem.1 hm;have k := hw i _ (List.getElem?_eq_getElem hi);have h0 : 0 ≤ rn m ws[i] := by rw [k.is]; omega
   refine ⟨(h.gen _).1 h0,fun v hv ha => k.le v ?_⟩;rw [← k.is];exact (h.alik ((h.gen v).2 hv) h0).2 ha
 · rintro ⟨hv,hle⟩;have h0 := (h.gen w).2 hv;rcases h.rt.rn_cases w with k | k
   · omega
   obtain ⟨i,hi⟩ := Int.eq_ofNat_of_zero_le k.1;have hil : i < ws.length := by omega
   have g := hw i _ (List.getElem?_eq_getElem hil);have h1 : 0 ≤ rn m ws[i] := by rw [g.is]; omega
   have e1 : sle w ws[i] := hle _ ((h.gen _).1 h1) ((h.alik h1 h0).1 (by rw [g.is,hi]));have e2 : sle ws[i] w := g.le w hi;rw [e1.antisymm e2];exact List.getElem_mem _
theorem MinG.uniq {G L : List Int → Prop} (h : MinG a G L) (k : MinG b G L) (hal : a.al = b.al) : a = b := by
 obtain ⟨wa,la,asa,ha⟩ := h.num.ws h.rt;obtain ⟨wb,lb,asb,hb⟩ := k.num.ws k.rt;obtain rfl : wa = wb := Rises.ext slt.irrefl (fun _ _ h => slt.asymm h) asa asb fun w => (h.fst la ha w).trans (k.fst lb hb w).symm
 have hn : a.n = b.n := by have := h.rt.n0; have := k.rt.n0; omega
 have hrn : ∀ w,rn a w = rn b w := by
  intro w;rcases h.rt.rn_cases w with g | g
  · rcases k.rt.rn_cases w with g' | g'
    · rw [g,g']
    · have := (h.gen w).2 ((k.gen w).1 g'.1); omega
  · obtain ⟨i,hi⟩ := Int.eq_ofNat_of_zero_le g.1;have hil : i < wa.length := by omega
    have e1 := ha i _ (List.getElem?_eq_getElem hil);have e2 := hb i _ (List.getElem?_eq_getElem hil);have h1 : 0 ≤ rn a wa[i] := by rw [e1.is]; omega
    have h2 : 0 ≤ rn b wa[i] := by rw [e2.is]; omega
    have h3 := (k.gen w).2 ((h.gen w).1 g.1);have := (k.alik h3 h2).2 ((h.alik g.1 h1).1 (by rw [hi,e1.is]));rw [hi,this,e2.is]
 refine au_eq h.rt k.rt hal hn hrn (fun s h0 h1 => ?_) (fun w => (h.mkd w).trans (k.mkd w).symm);obtain ⟨i,rfl⟩ := Int.eq_ofNat_of_zero_le h0;have hil : i < wa.length := by omega
 exact ⟨_,(ha i _ (List.getElem?_eq_getElem hil)).is⟩
theorem Mini.g {m : Au} (h : Mini a m) : MinG m (fun w => 0 ≤ rn a w) (fun w => rn a w ∈ a.mr) := ⟨h.rt,h.num,h.gen,h.mkd,h.ds⟩
theorem MinG.congr {m : Au} {G L G' L' : List Int → Prop} (h : MinG m G L) (e1 : ∀ w,G w ↔ G' w) (e2 : ∀ w,L w ↔ L' w) : MinG m G' L' := ⟨h.rt,h.num,fun w => (h.gen w).trans (e1 w),fun w => (h.mkd w).trans (e2 w),h.ds⟩
end
def swV (p q i : Int) : Int := if i = p then q else if i = q then p else i
def exMi (a : Au) (p q : Int) (i : Nat) (l : List Int) : List Int := (l.filter fun m => decide (m = swV p q i)).map fun _ => (i : Int)
def exM (a : Au) (p q : Int) (k : Nat) : List Int := (List.range k).flatMap fun i => exMi a p q i a.mr
def exEi (p q : Int) (i : Nat) (l : List Ed) : List Ed := (l.filter fun y => decide (y.src = swV p q i)).map fun y => ⟨i,y.ev,swV p q y.dst⟩
def exE (a : Au) (p q : Int) (k : Nat) : List Ed := (List.range k).flatMap fun i => exEi p q i a.ed
def swA (a : Au) (p q : Int) : Au := ⟨a.al,a.n,exM a p q a.n.toNat,exE a p q a.n.toNat⟩
theorem pw_rises {α : Type} {R : α → α → Prop} {l : List α} (h : l.Pairwise R) : Rises R l := fun i j u v hij hu hv => by
 obtain ⟨h1,rfl⟩ := List.getElem?_eq_some_iff.1 hu;obtain ⟨h2,rfl⟩ := List.getElem?_eq_some_iff.1 hv;exact List.pairwise_iff_getElem.1 h i j h1 h2 hij
section
variable {a : Au} {p q : Int}
end
end
section
theorem canon_uniq {c d : List Int} {m k : Nat} {E : Nat → Nat → Prop} (hc : Canon c m) (hd : Canon d k) (hl : c.length = d.length)
 (ec : ∀ i j : Nat,i < c.length → j < c.length → (c[i]? = c[j]? ↔ E i j)) (ed : ∀ i j : Nat,i < d.length → j < d.length → (d[i]? = d[j]? ↔ E i j)) : c = d := by
 have key : ∀ s : Nat,s < c.length → c[s]? = d[s]? := by
  intro s;induction s using Nat.strongRecOn with
  | _ s ih =>
    intro hs;by_cases h : ∃ t,t < s ∧ c[t]? = c[s]?
    · obtain ⟨t,ht,h⟩ := h;have h2 := (ed t s (by omega) (by omega)).2 ((ec t s (by omega) hs).1 h);rw [← h,ih t ht (by omega),h2]
    · have hx := List.getElem?_eq_getElem hs;have hy := List.getElem?_eq_getElem (show s < d.length by omega);obtain ⟨x,hx2⟩ : ∃ x,c[s] = x := ⟨_,rfl⟩;obtain ⟨y,hy2⟩ : ∃ y,d[s]'(by omega) = y := ⟨_,rfl⟩;rw [hx2] at hx;rw [hy2] at hy;have x0 := (hc.rg s x hx).1;have y0 := (hd.rg s y hy).1;obtain ⟨xn,rfl⟩ := Int.eq_ofNat_of_zero_le x0;obtain ⟨yn,rfl⟩ := Int.eq_ofNat_of_zero_le y0;rcases Nat.lt_trichotomy xn yn with g | g | g
      · exfalso
        obtain ⟨t,ht,h3⟩ := hd.cn s _ hy xn (by omega);exact h ⟨t,ht,by rw [ih t ht (by omega),h3,hx]⟩
      · rw [hx,hy,g]
      · exfalso
        obtain ⟨t,ht,h3⟩ := hc.cn s _ hx yn (by omega);have h4 : d[t]? = d[s]? := by rw [← ih t ht (by omega),h3,hy]
        exact h ⟨t,ht,(ec t s (by omega) hs).2 ((ed t s (by omega) (by omega)).1 h4)⟩
 refine List.ext_getElem? fun s => ?_;by_cases hs : s < c.length
 · exact key s hs
 · rw [List.getElem?_eq_none (by omega),List.getElem?_eq_none (by omega)]
section
variable {a : Au}
def outA (a : Au) (s : Int) (l : List Int) : List (Int × Int) := l.filterMap fun e => if 0 ≤ nextV a.ed s e then some (e,nextV a.ed s e) else none
theorem mem_outA {s e t : Int} {l : List Int} : (e,t) ∈ outA a s l ↔ e ∈ l ∧ nextV a.ed s e = t ∧ 0 ≤ t := by
 unfold outA
 rw [List.mem_filterMap];constructor
 · rintro ⟨x,hx,h⟩;split at h
   · rename_i h0
     simp only [Option.some.injEq,Prod.mk.injEq] at h;obtain ⟨rfl,rfl⟩ := h;exact ⟨hx,rfl,h0⟩
   · cases h
 · rintro ⟨h1,rfl,h3⟩;exact ⟨e,h1,by rw [if_pos h3]⟩
theorem outA_pw (s : Int) {l : List Int} (h : l.Pairwise (· < ·)) : (outA a s l).Pairwise fun x y => x.1 < y.1 := by
 unfold outA
 rw [List.pairwise_filterMap];refine h.imp fun {x y} hxy u hu v hv => ?_;split at hu
 · split at hv
   · cases hu; cases hv; exact hxy
   · cases hv
 · cases hu
theorem Au.Right.ev_al {a : Au} (hr : a.Right) {s e : Int} (h : 0 ≤ nextV a.ed s e) : e ∈ a.al := by
 rcases hr.next_cases s e with g | ⟨_,_,x,hx,x1,x2,x3⟩
 · omega
 · obtain ⟨p,hp,hpx⟩ := List.mem_iff_getElem.1 hx;have := (hr.ed p hp x (by rw [List.getElem?_eq_getElem hp,hpx])).2.2.2.2.1;rw [x2] at this;exact this
theorem outK_eq (hr : a.Right) {s : Int} (hs : 0 ≤ s) : outK a (fun _ => true) s = outA a s a.al := by
 refine Rises.ext (R := fun x y : Int × Int => x.1 < y.1) (fun x h => by omega) (fun x y h h' => by omega) ?_ (pw_rises (outA_pw s hr.al.incr.pw)) fun x => ?_
 · have h := sig_rises hr (c := []) s.toNat;intro i j u v hij hu hv;unfold outK at hu hv
   rw [List.getElem?_map,Option.map_eq_some_iff] at hu hv;obtain ⟨x,hx,rfl⟩ := hu;obtain ⟨y,hy,rfl⟩ := hv;rw [List.filter_eq_self.2 (by simp)] at hx hy;exact outOf_rises hr s.toNat i j x y hij hx hy
 · obtain ⟨e,t⟩ := x;rw [mem_outK hr hs,mem_outA];constructor
   · rintro ⟨h1,h2,_⟩;exact ⟨hr.ev_al (by rw [h1]; exact h2),h1,h2⟩
   · rintro ⟨_,h1,h2⟩;exact ⟨h1,h2,rfl⟩
theorem outK_at (hr : a.Right) {s : Int} (hs : 0 ≤ s) {k : Nat} {e : Int} (hk : a.al[k]? = some e) (h0 : 0 ≤ nextV a.ed s e) : (outK a (fun _ => true) s)[(outA a s (a.al.take k)).length]? = some (e,nextV a.ed s e) := by
 have hlt := (List.getElem?_eq_some_iff.1 hk).1;have e1 : outA a s a.al = outA a s (a.al.take k) ++ outA a s (a.al.drop k) := by unfold outA; rw [← List.filterMap_append,List.take_append_drop]
 have e2 : a.al.drop k = e :: a.al.drop (k + 1) := by
  rw [List.drop_eq_getElem_cons hlt];have := (List.getElem?_eq_some_iff.1 hk).2;rw [this]
 rw [outK_eq hr hs,e1,List.getElem?_append_right (Nat.le_refl _),Nat.sub_self,e2];unfold outA
 simp [h0]
theorem outA_yes {s e : Int} {l : List Int} {k : Nat} (hk : l[k]? = some e) (h0 : 0 ≤ nextV a.ed s e) : (outA a s (l.take (k + 1))).length = (outA a s (l.take k)).length + 1 := by
 have : l.take (k + 1) = l.take k ++ [e] := by rw [List.take_add_one,hk]; rfl
 rw [this];unfold outA
 rw [List.filterMap_append,List.length_append];simp [h0]
theorem outA_no {s e : Int} {l : List Int} {k : Nat} (hk : l[k]? = some e) (h0 : ¬ 0 ≤ nextV a.ed s e) : (outA a s (l.take (k + 1))).length = (outA a s (l.take k)).length := by
 have : l.take (k + 1) = l.take k ++ [e] := by rw [List.take_add_one,hk]; rfl
 rw [this];unfold outA
 rw [List.filterMap_append,List.length_append];simp [h0]
structure Clz (a : Au) (c : List Int) (m : Nat) : Prop where
 can : Canon c m
 eq : ∀ i j : Nat,i < c.length → j < c.length → (c[i]? = c[j]? ↔ Eqv a i j)
theorem Eqv.trans {a : Au} {i j k : Int} (h : Eqv a i j) (g : Eqv a j k) : Eqv a i k := fun w => ⟨(h w).1.trans (g w).1,(h w).2.trans (g w).2⟩
theorem Clz.start (a : Au) : Clz a [] 0 := ⟨⟨by simp,by simp,by simp⟩,by simp⟩
theorem Clz.old {c : List Int} {m k : Nat} {x : Int} (h : Clz a c m) (hk : c[k]? = some x) (he : Eqv a k (c.length : Nat)) : Clz a (c ++ [x]) m := by
 have hkl := (List.getElem?_eq_some_iff.1 hk).1;refine ⟨⟨fun s y hy => ?_,fun y hy => ?_,fun s y hy z hz => ?_⟩,fun i j hi hj => ?_⟩
 · rcases getElem?_snoc hy with hy | ⟨_,rfl⟩
   · exact h.can.rg s y hy
   · exact h.can.rg k _ hk
 · obtain ⟨s,hs⟩ := h.can.on y hy;exact ⟨s,by rw [List.getElem?_append_left (List.getElem?_eq_some_iff.1 hs).1]; exact hs⟩
 · rcases getElem?_snoc hy with hy | ⟨hs,rfl⟩
   · obtain ⟨t,ht,h2⟩ := h.can.cn s y hy z hz;exact ⟨t,ht,by rw [List.getElem?_append_left (List.getElem?_eq_some_iff.1 h2).1]; exact h2⟩
   · obtain ⟨t,ht,h2⟩ := h.can.cn k _ hk z hz;exact ⟨t,by omega,by rw [List.getElem?_append_left (List.getElem?_eq_some_iff.1 h2).1]; exact h2⟩
 · have g : ∀ i : Nat,i < c.length → ((c ++ [x])[i]? = c[i]?) := fun i hi => List.getElem?_append_left hi;have gl : (c ++ [x])[c.length]? = some x := by simp
   simp only [List.length_append,List.length_singleton] at hi hj;by_cases h1 : i < c.length
   · by_cases h2 : j < c.length
     · rw [g i h1,g j h2]; exact h.eq i j h1 h2
     · obtain rfl : j = c.length := by omega
       rw [g i h1,gl,← hk,h.eq i k h1 hkl];exact ⟨fun q => q.trans he,fun q => q.trans he.symm⟩
   · obtain rfl : i = c.length := by omega
     by_cases h2 : j < c.length
     · rw [g j h2,gl,← hk,h.eq k j hkl h2];exact ⟨fun q => he.symm.trans q,fun q => he.trans q⟩
     · obtain rfl : j = c.length := by omega
       exact ⟨fun _ => Eqv.refl _ _,fun _ => rfl⟩
theorem Clz.new {c : List Int} {m : Nat} (h : Clz a c m) (hn : ∀ k : Nat,k < c.length → ¬ Eqv a k (c.length : Nat)) : Clz a (c ++ [(m : Int)]) (m + 1) := by
 refine ⟨⟨fun s y hy => ?_,fun y hy => ?_,fun s y hy z hz => ?_⟩,fun i j hi hj => ?_⟩
 · rcases getElem?_snoc hy with hy | ⟨_,rfl⟩
   · have := h.can.rg s y hy; omega
   · omega
 · by_cases hym : y < m
   · obtain ⟨s,hs⟩ := h.can.on y hym;exact ⟨s,by rw [List.getElem?_append_left (List.getElem?_eq_some_iff.1 hs).1]; exact hs⟩
   · obtain rfl : y = m := by omega
     exact ⟨c.length,by simp⟩
 · rcases getElem?_snoc hy with hy | ⟨hs,rfl⟩
   · obtain ⟨t,ht,h2⟩ := h.can.cn s y hy z hz;exact ⟨t,ht,by rw [List.getElem?_append_left (List.getElem?_eq_some_iff.1 h2).1]; exact h2⟩
   · obtain ⟨t,h2⟩ := h.can.on z (by omega);have := (List.getElem?_eq_some_iff.1 h2).1;exact ⟨t,by omega,by rw [List.getElem?_append_left this]; exact h2⟩
 · have g : ∀ i : Nat,i < c.length → ((c ++ [(m : Int)])[i]? = c[i]?) := fun i hi => List.getElem?_append_left hi;have gl : (c ++ [(m : Int)])[c.length]? = some (m : Int) := by simp
   have ne : ∀ i : Nat,i < c.length → c[i]? ≠ some (m : Int) := fun i hi hh => by have := h.can.rg i _ hh; omega
   simp only [List.length_append,List.length_singleton] at hi hj;by_cases h1 : i < c.length
   · by_cases h2 : j < c.length
     · rw [g i h1,g j h2]; exact h.eq i j h1 h2
     · obtain rfl : j = c.length := by omega
       rw [g i h1,gl];exact ⟨fun q => absurd q (ne i h1),fun q => absurd q (hn i h1)⟩
   · obtain rfl : i = c.length := by omega
     by_cases h2 : j < c.length
     · rw [g j h2,gl];exact ⟨fun q => absurd q.symm (ne j h2),fun q => absurd q.symm (hn j h2)⟩
     · obtain rfl : j = c.length := by omega
       exact ⟨fun _ => Eqv.refl _ _,fun _ => rfl⟩
end
end
section
section
variable {a : Au} {c : List Int}
def RefS (a : Au) (c : List Int) (x y : Int) : Prop := (x ∈ a.mr ↔ y ∈ a.mr) ∧ ∀ e,e ∈ a.al → (0 ≤ nextV a.ed x e ↔ 0 ≤ nextV a.ed y e) ∧ (0 ≤ nextV a.ed x e → clsV c (nextV a.ed x e) = clsV c (nextV a.ed y e))
theorem mem_sig (hr : a.Right) {s : Nat} {p : Int × Int} : p ∈ (outOf a.ed s).map (fun x => (x.ev,clsV c x.dst)) ↔ p.1 ∈ a.al ∧ 0 ≤ nextV a.ed s p.1 ∧ p.2 = clsV c (nextV a.ed s p.1) := by
 obtain ⟨e,z⟩ := p;rw [List.mem_map];constructor
 · rintro ⟨x,hx,h⟩;obtain ⟨hm,hs⟩ := mem_outOf.1 hx;simp only [Prod.mk.injEq] at h;obtain ⟨rfl,rfl⟩ := h;have h1 := edge_next hr hm;rw [hs] at h1;have h0 : 0 ≤ nextV a.ed s x.ev := by rw [h1.1]; exact h1.2.2.2.1
   exact ⟨hr.ev_al h0,h0,by rw [h1.1]⟩
 · rintro ⟨_,h0,h2⟩;dsimp only at h0 h2;rcases hr.next_cases (s : Int) e with g | ⟨_,_,x,hx,x1,x2,x3⟩
   · omega
   · exact ⟨x,mem_outOf.2 ⟨hx,x1⟩,by rw [x2,h2,x3]⟩
theorem same1_iff (hr : a.Right) (i j : Nat) : Same1 a c i j ↔ RefS a c i j := by
 unfold Same1 RefS
 refine and_congr Iff.rfl ⟨fun h e he => ?_,fun h => ?_⟩
 · have key : ∀ i j : Nat,(sigV a c i).2 = (sigV a c j).2 → 0 ≤ nextV a.ed i e → 0 ≤ nextV a.ed j e ∧ clsV c (nextV a.ed i e) = clsV c (nextV a.ed j e) := fun i j h h0 => by
    have h1 : (e,clsV c (nextV a.ed i e)) ∈ (sigV a c i).2 := (mem_sig hr).2 ⟨he,h0,rfl⟩;rw [h] at h1;obtain ⟨_,h2,h3⟩ := (mem_sig hr).1 h1;exact ⟨h2,h3⟩
   exact ⟨⟨fun h0 => (key i j h h0).1,fun h0 => (key j i h.symm h0).1⟩,fun h0 => (key i j h h0).2⟩
 · refine Rises.ext (R := fun x y : Int × Int => x.1 < y.1) (fun x h => by omega) (fun x y h h' => by omega) (sig_rises hr c i) (sig_rises hr c j) fun p => ?_;refine ((mem_sig (c := c) hr).trans ?_).trans (mem_sig (c := c) hr).symm;constructor
   · rintro ⟨h1,h2,h3⟩;exact ⟨h1,(h p.1 h1).1.1 h2,h3.trans ((h p.1 h1).2 h2)⟩
   · rintro ⟨h1,h2,h3⟩;have h4 := (h p.1 h1).1.2 h2;exact ⟨h1,h4,h3.trans ((h p.1 h1).2 h4).symm⟩
theorem RefS.symm {x y : Int} (h : RefS a c x y) : RefS a c y x :=
 ⟨h.1.symm,fun e he => ⟨(h.2 e he).1.symm,fun h0 => ((h.2 e he).2 ((h.2 e he).1.2 h0)).symm⟩⟩
def RefC (a : Au) (c : List Int) : Prop := ∀ x y : Nat,x < c.length → y < x → c[x]? = c[y]? → RefS a c x y
theorem refC_iff (hr : a.Right) : RefC a c ↔ ConsV a c := by
 constructor
 · intro h i j hi hj he;rw [same1_iff hr];rcases Nat.lt_trichotomy i j with g | g | g
   · exact (h j i hj g he.symm).symm
   · subst g; exact ⟨Iff.rfl,fun _ _ => ⟨Iff.rfl,fun _ => rfl⟩⟩
   · exact h i j hi g he
 · intro h x y hx hy he;exact (same1_iff hr x y).1 (h x y hx (by omega) he)
structure NumE (m : Au) (G L : List Int → Prop) (E : List Int → List Int → Prop) : Prop where
 rt : m.Right
 num : Num m.ed m.n
 gen : ∀ w,0 ≤ rn m w ↔ G w
 mkd : ∀ w,rn m w ∈ m.mr ↔ L w
 eq : ∀ u v,0 ≤ rn m u → 0 ≤ rn m v → (rn m u = rn m v ↔ E u v)
def FstE (G : List Int → Prop) (E : List Int → List Int → Prop) (w : List Int) : Prop := G w ∧ ∀ v,G v → E v w → sle w v
theorem NumE.fst {m : Au} {G L : List Int → Prop} {E : List Int → List Int → Prop} (h : NumE m G L E) {ws : List (List Int)} (hl : ws.length = m.n.toNat) (hw : ∀ (i : Nat) (w : List Int),ws[i]? = some w → LeastW (fun v => rn m v = (i : Int)) w) (w : List Int) : w ∈ ws ↔ FstE G E w := by
 constructor
 · intro hm;obtain ⟨i,hi,rfl⟩ := List.mem_iff_getElem.1 hm;have k := hw i _ (List.getElem?_eq_getElem hi);have h0 : 0 ≤ rn m ws[i] := by rw [k.is]; omega
   refine ⟨(h.gen _).1 h0,fun v hv ha => k.le v ?_⟩;rw [← k.is];exact (h.eq _ _ ((h.gen v).2 hv) h0).2 ha
 · rintro ⟨hv,hle⟩;have h0 := (h.gen w).2 hv;rcases h.rt.rn_cases w with k | k
   · omega
   obtain ⟨i,hi⟩ := Int.eq_ofNat_of_zero_le k.1;have hil : i < ws.length := by omega
   have g := hw i _ (List.getElem?_eq_getElem hil);have h1 : 0 ≤ rn m ws[i] := by rw [g.is]; omega
   have e1 : sle w ws[i] := hle _ ((h.gen _).1 h1) ((h.eq _ _ h1 h0).1 (by rw [g.is,hi]));have e2 : sle ws[i] w := g.le w hi;rw [e1.antisymm e2];exact List.getElem_mem _
theorem NumE.uniq {m k : Au} {G L : List Int → Prop} {E : List Int → List Int → Prop} (h : NumE m G L E) (g : NumE k G L E) (hal : m.al = k.al) : m = k := by
 obtain ⟨wa,la,asa,ha⟩ := h.num.ws h.rt;obtain ⟨wb,lb,asb,hb⟩ := g.num.ws g.rt;obtain rfl : wa = wb := Rises.ext slt.irrefl (fun _ _ h => slt.asymm h) asa asb fun w => (h.fst la ha w).trans (g.fst lb hb w).symm
 have hn : m.n = k.n := by have := h.rt.n0; have := g.rt.n0; omega
 have hrn : ∀ w,rn m w = rn k w := by
  intro w;rcases h.rt.rn_cases w with q | q
  · rcases g.rt.rn_cases w with q' | q'
    · rw [q,q']
    · have := (h.gen w).2 ((g.gen w).1 q'.1); omega
  · obtain ⟨i,hi⟩ := Int.eq_ofNat_of_zero_le q.1;have hil : i < wa.length := by omega
    have e1 := ha i _ (List.getElem?_eq_getElem hil);have e2 := hb i _ (List.getElem?_eq_getElem hil);have h1 : 0 ≤ rn m wa[i] := by rw [e1.is]; omega
    have h2 : 0 ≤ rn k wa[i] := by rw [e2.is]; omega
    have h3 := (g.gen w).2 ((h.gen w).1 q.1);have := (g.eq _ _ h3 h2).2 ((h.eq _ _ q.1 h1).1 (by rw [hi,e1.is]));rw [hi,this,e2.is]
 refine au_eq h.rt g.rt hal hn hrn (fun s h0 h1 => ?_) (fun w => (h.mkd w).trans (g.mkd w).symm);obtain ⟨i,rfl⟩ := Int.eq_ofNat_of_zero_le h0;have hil : i < wa.length := by omega
 exact ⟨_,(ha i _ (List.getElem?_eq_getElem hil)).is⟩
theorem Mrg.num (hr : a.Right) (hn : 0 < a.n) (hl : c.length = a.n.toNat) (hc : ConsV a c) {m : Au} (h : Mrg a c m) : NumE m (fun w => 0 ≤ rn a w) (fun w => rn a w ∈ a.mr) (fun u v => clsV c (rn a u) = clsV c (rn a v)) := by
 obtain ⟨hal,⟨h0,_⟩ | ⟨fs,B,hfs,hm⟩⟩ := h
 · omega
 have hcs : ∀ v v' : Int,0 ≤ v ∧ v < a.n → 0 ≤ v' ∧ v' < a.n → clsV c v = clsV c v' → RefS a c v v' := fun v v' hv hv' hk => by
  have e1 : v.toNat < c.length := by omega
  have e2 : v'.toNat < c.length := by omega
  have h1 : c[v.toNat]? = c[v'.toNat]? := by
   unfold clsV at hk
   rw [getD_lt _ e1,getD_lt _ e2] at hk;rw [List.getElem?_eq_getElem e1,List.getElem?_eq_getElem e2,hk]
  have := (same1_iff hr _ _).1 (hc v.toNat v'.toNat e1 e2 h1);rwa [Int.toNat_of_nonneg hv.1,Int.toNat_of_nonneg hv'.1] at this
 have CG : Cong (fun v : Int => 0 ≤ v ∧ v < a.n) (clsV c) (outK a fun _ => true) := by
  refine ⟨fun v hv e t h => ?_,fun v v' hv hv' hk e t h => ?_,fun v _ => outK_ups hr _ v⟩
  · obtain ⟨h1,h2,_⟩ := (mem_outK hr hv.1).1 h;rcases hr.next_cases v e with g | g
    · omega
    · omega
  · obtain ⟨h1,h2,_⟩ := (mem_outK hr hv.1).1 h;have h0 : 0 ≤ nextV a.ed v e := by rw [h1]; exact h2
    obtain ⟨k1,k2⟩ := (hcs v v' hv hv' hk).2 e (hr.ev_al h0);have h3 := k1.1 h0;exact ⟨_,(mem_outK hr hv'.1).2 ⟨rfl,h3,rfl⟩,by rw [← k2 h0,h1]⟩
 have hst : a.st = 0 := if_neg (by omega);have hrun := B.run CG ⟨Int.le_refl _,hn⟩ hfs;have hR : ∀ w,runS (outK a fun _ => true) 0 w = if 0 ≤ rn a w then some (rn a w) else none := fun w => by
  rw [runS_outK hr _ w 0 (Int.le_refl _),runK_all hr w 0 (Int.le_refl _)];unfold rn
  rw [hst]
 have both : ∀ w,(rn m w = -1 ∧ ¬ 0 ≤ rn a w) ∨ ∃ (d : Nat) (u : Int),rn m w = d ∧ fs[d]? = some u ∧ (0 ≤ rn a w ∧ rn a w < a.n) ∧ clsV c u = clsV c (rn a w) := fun w => by
  have hw := hR w;rcases hrun w with ⟨g1,g2⟩ | ⟨d,u,t,g1,g2,g3,g4,g5⟩
  · rw [g2] at hw;refine .inl ⟨g1,fun h => ?_⟩;rw [if_pos h] at hw; cases hw
  · rw [g3] at hw;split at hw
    · rename_i h
      obtain rfl := Option.some.inj hw;exact .inr ⟨d,u,g1,g2,g5,g4⟩
    · cases hw
 refine ⟨B.rt,B.num,fun w => ?_,fun w => ?_,fun u v hu hv => ?_⟩
 · rcases both w with ⟨g1,g2⟩ | ⟨d,u,g1,g2,g3,g4⟩
   · exact ⟨fun h => by omega,fun h => absurd h g2⟩
   · exact ⟨fun _ => g3.1,fun _ => by omega⟩
 · rcases both w with ⟨g1,g2⟩ | ⟨d,u,g1,g2,g3,g4⟩
   · constructor
     · intro h; have := (B.rt.mem h).1; omega
     · intro h; exact absurd (hr.mem h).1 g2
   · rw [g1,hm];have := (hcs u _ (hfs u (List.mem_of_getElem? g2)) g3 g4).1;constructor
     · rintro ⟨v,h1,h2⟩;rw [g2] at h1; cases h1;exact this.1 h2
     · intro h; exact ⟨u,g2,this.2 h⟩
 · rcases both u with ⟨g1,_⟩ | ⟨d,x,g1,g2,g3,g4⟩
   · omega
   rcases both v with ⟨k1,_⟩ | ⟨d',y,k1,k2,k3,k4⟩
   · omega
   rw [g1,k1,← g4,← k4];constructor
   · intro h;obtain rfl : d = d' := by omega
     rw [g2] at k2; cases k2; rfl
   · intro h;rw [B.nd d d' x y g2 k2 h]
theorem Mrg.uniq (hr : a.Right) (hn : 0 < a.n) (hl : c.length = a.n.toNat) (hc : ConsV a c) {m k : Au} (h : Mrg a c m) (g : Mrg a c k) : m = k :=
 NumE.uniq (h.num hr hn hl hc) (g.num hr hn hl hc) (by rw [h.1,g.1])
end
end
def Ent.and (e f : Ent) : Ent where
 foot := e.foot ++ f.foot
 ok w := e.ok w ∧ f.ok w
 lt w h g hg := (List.mem_append.1 hg).elim (e.lt w h.1 g) (f.lt w h.2 g)
 turn w w' h hg := ⟨e.turn w w' h.1 fun g k => hg g (List.mem_append_left _ k),f.turn w w' h.2 fun g k => hg g (List.mem_append_right _ k)⟩
theorem Sep.join {n : Nat} {w0 w : World} {e f : Ent} {es : List Ent} (S : Sep n w0 (e :: f :: es) w) : Sep n w0 (e.and f :: es) w := by
 have ap := S.ap;rw [List.pairwise_cons,List.pairwise_cons] at ap;refine ⟨S.fro,fun x hx => ?_,fun x hx => ?_,List.pairwise_cons.2 ⟨fun x hx g hg => ?_,ap.2.2⟩⟩
 · rcases List.mem_cons.1 hx with rfl | hx
   · exact ⟨S.ok e (by simp),S.ok f (by simp)⟩
   · exact S.ok x (by simp [hx])
 · rcases List.mem_cons.1 hx with rfl | hx
   · exact fun g hg => (List.mem_append.1 hg).elim (S.ge e (by simp) g) (S.ge f (by simp) g)
   · exact S.ge x (by simp [hx])
 · rcases List.mem_append.1 hg with h | h
   · exact ap.1 x (by simp [hx]) g h
   · exact ap.2.1 x hx g h

structure PrV where
 x : Int
 y : Int
 A : Option Addr
 n : Nat
 c : Nat
def PrV.cells (p : PrV) : List Value := [.int .i64 p.x,.int .i64 p.y,.slice p.A p.n p.c]
theorem prOne (x : PrV) : ∀ u ∈ PrV.cells x,u.oneCell' = true := fun u hu => by simp [PrV.cells] at hu; rcases hu with rfl | rfl | rfl <;> rfl
theorem prInfo : (Try.prog.info? 72).map (fun i => (i.zero,i.size,i.bytes)) = some (some (.agg #[.int .i64 0,.int .i64 0,.slice none 0 0]),3,40) := by kernel_rfl
def WdAt (fs : List Nat) (w : World) (r : PrV) (wd : List Int) : Prop := r.n = wd.length ∧ ((r.A = none ∧ wd = [] ∧ r.c = 0) ∨ ∃ g,r.A = some ⟨g,0,none⟩ ∧ g ∈ fs ∧ ∀ j x,wd[j]? = some x → w.cell? ⟨g,j,none⟩ = some (.int .i64 x))
def eWds (fs : List Nat) (raw : List PrV) (l : List Pw) : Ent where
 foot := fs
 ok w := raw.length = l.length ∧ (∀ g,g ∈ fs → g < w.heap.size) ∧ ∀ (i : Nat) (r : PrV) (p : Pw),raw[i]? = some r → l[i]? = some p → r.x = p.x ∧ r.y = p.y ∧ WdAt fs w r p.w
 lt w h := h.2.1
 turn w w' h hg := by
  refine ⟨h.1,fun g hk => ?_,fun i r p hr hp => ?_⟩
  · have h1 := hg g hk;have h2 := h.2.1 g hk;rw [Array.getElem?_eq_getElem h2] at h1;exact (Array.getElem?_eq_some_iff.1 h1).1
  · obtain ⟨h1,h2,h3,h4⟩ := h.2.2 i r p hr hp;refine ⟨h1,h2,h3,h4.imp id fun ⟨g,e,hm,hc⟩ => ⟨g,e,hm,fun j x hx => ?_⟩⟩;exact (World.cell?_of_block (a := ⟨g,_,none⟩) (hg g hm)).trans (hc j x hx)
theorem WdAt.ints {fs : List Nat} {w : World} {r : PrV} {wd : List Int} (h : WdAt fs w r wd) (hfs : ∀ g,g ∈ fs → g < w.heap.size) : IntsAt w r.A wd := by
 intro hne;rcases h.2 with ⟨_,h2,_⟩ | ⟨g,hA,hm,hc⟩
 · exact absurd h2 hne
 · refine ⟨g,0,hA,hfs g hm,fun i x hx => ⟨[.int .i64 x],rfl,rfl,fun j v hj => ?_⟩⟩;cases j with
   | zero => simp at hj; subst hj; simpa using hc i x hx
   | succ j => simp at hj
theorem Sep.wdCells {n : Nat} {w0 w : World} {es : List Ent} {fs : List Nat} {raw : List PrV} {l : List Pw} (S : Sep n w0 es w) (i : Nat) (hi : es[i]? = some (eWds fs raw l)) {q : Nat} {p : Pw} {g : Nat} {x y : Int} {nn c : Nat} (hr : raw[q]? = some ⟨x,y,some ⟨g,0,none⟩,nn,c⟩) (hp : l[q]? = some p) : ∀ j u,(p.w.flatMap encI)[j]? = some u → w.cell? ⟨g,j,none⟩ = some u := by
 intro j u hj;obtain ⟨_,_,_,h4⟩ := (S.get i hi).2.2 q _ p hr hp;rcases h4 with ⟨h,_⟩ | ⟨g',hA,_,hc⟩
 · cases h
 · cases hA;rw [flat_encI,List.getElem?_map,Option.map_eq_some_iff] at hj;obtain ⟨z,hz,rfl⟩ := hj;exact hc j z hz
theorem Sep.wdsPush {n : Nat} {w0 w : World} {es : List Ent} {fs : List Nat} {raw : List PrV} {l : List Pw} {wd : List Int} {A : Option Addr} {c : Nat} (S : Sep n w0 (eInts wd (.slice A wd.length c) :: eWds fs raw l :: es) w) (x y : Int) :
 Sep n w0 (eWds ((Value.slice A wd.length c).ownBlock.toList ++ fs) (raw ++ [⟨x,y,A,wd.length,c⟩]) (l ++ [⟨x,y,wd⟩]) :: es) w := by
 refine (S.join).as 0 rfl _ (fun h => ?_) (fun g hg => hg);obtain ⟨ho,hl,hz,hc⟩ := h;refine ⟨by simp [hl],fun g hg => ?_,fun i r p hr hp => ?_⟩
 · rcases List.mem_append.1 hg with k | k
   · exact (Own.lt ho g (by simpa using k)).2
   · exact hz g k
 · rcases getElem?_snoc hr with hr | ⟨hi,rfl⟩
   · have hil := (List.getElem?_eq_some_iff.1 hr).1;rw [List.getElem?_append_left (by omega)] at hp;obtain ⟨h1,h2,h3,h4⟩ := hc i r p hr hp;exact ⟨h1,h2,h3,h4.imp id fun ⟨g,e,hm,hk⟩ => ⟨g,e,List.mem_append_right _ hm,hk⟩⟩
   · rw [hi,hl,List.getElem?_append_right (Nat.le_refl _)] at hp;simp at hp
     subst hp;refine ⟨rfl,rfl,rfl,?_⟩;have hI := OwnI.ints ho;rcases ho.2 with ⟨h1,h2⟩ | ⟨g,cap,cur,h1,h2,h3⟩
     · simp only [Value.slice.injEq] at h1;obtain ⟨rfl,_,rfl⟩ := h1;exact .inl ⟨rfl,List.eq_nil_of_length_eq_zero h2,rfl⟩
     · simp only [Value.slice.injEq] at h1;obtain ⟨rfl,_,rfl⟩ := h1;refine .inr ⟨g,rfl,by simp [Value.ownBlock],fun j x hx => ?_⟩;obtain ⟨z,hz1,hz2⟩ := IntsAt.more hI (List.getElem?_eq_some_iff.1 hx).1;rw [hx] at hz1; cases hz1;simpa using hz2
theorem Sep.prs {n : Nat} {w0 w : World} {es : List Ent} {raw : List PrV} {A : Option Addr} {c : Nat} (S : Sep n w0 es w) (i : Nat) (hi : es[i]? = some (eOwn PrV.cells 3 72 raw (.slice A raw.length c))) {k : Nat} (hk : k < raw.length) : ∃ g off x,A = some ⟨g,off,none⟩ ∧ raw[k]? = some x := by
 obtain ⟨b,off,x,vs,hA,_,hx,_⟩ := SlAt.at (Own.reads (enc := PrV.cells) (k := 3) (fun _ => rfl) (S.get i hi)) hk;exact ⟨b,off,x,hA,hx⟩
theorem Sep.prAt {n : Nat} {w0 w : World} {es : List Ent} {raw : List PrV} {g off c : Nat} (S : Sep n w0 es w) (i : Nat) (hi : es[i]? = some (eOwn PrV.cells 3 72 raw (.slice (some ⟨g,off,none⟩) raw.length c))) {k : Nat} {x y : Int} {A : Option Addr} {nn cc : Nat} (hr : raw[k]? = some ⟨x,y,A,nn,cc⟩) :
 w.cell? ⟨g,off + k * 3,none⟩ = some (.int .i64 x) ∧ w.cell? ⟨g,off + k * 3 + 1,none⟩ = some (.int .i64 y) ∧ w.cell? ⟨g,off + k * 3 + 2,none⟩ = some (.slice A nn cc) := by
 obtain ⟨b,o,x',vs,hA,_,hx,_,hE,hc⟩ := SlAt.at (Own.reads (enc := PrV.cells) (k := 3) (fun _ => rfl) (S.get i hi)) (List.getElem?_eq_some_iff.1 hr).1;rw [hr] at hx;cases hx; cases hA
 obtain rfl : vs = PrV.cells _ := hE;exact ⟨by simpa using hc 0 _ rfl,hc 1 _ rfl,hc 2 _ rfl⟩
theorem Sep.intAt {n : Nat} {w0 w : World} {es : List Ent} {l : List Int} {g off m c : Nat} (S : Sep n w0 es w) (i : Nat) (hi : es[i]? = some (eInts l (.slice (some ⟨g,off,none⟩) m c))) {k : Nat} {x : Int} (hx : l[k]? = some x) : w.cell? ⟨g,off + k,none⟩ = some (.int .i64 x) := by
 have ho := S.get i hi;obtain ⟨A',c',e⟩ := Own.form ho;cases e;obtain ⟨z,h1,h2⟩ := IntsAt.more (OwnI.ints ho) (List.getElem?_eq_some_iff.1 hx).1;rw [hx] at h1; cases h1;exact h2
theorem step_pushNS {P : Program} {α : Type} {enc : α → List Value} {k T n : Nat} {w0 w : World} {es : List Ent} {l : List α} {v : Value} {ops : Array Oper} {o : Oper} {a : Act} {K : Act → World → Prop} {Q : Exit → Act → World → Prop} {E : Prop} (hgd : o.guard = none) (s x : Operand) (t : TypeId)
 (ho : o.op = .call { callee := .builtin .append,args := #[s,x],argTypes := #[t,t] }) (S : Sep n w0 es w) (i : Nat) (hei : es[i]? = some (eOwn enc k T l v))
 (ht : P.underlying t = some (.slice T)) (z : Value) (bytes : Nat) (hi : (P.info? T).map (fun i => (i.zero,i.size,i.bytes)) = some (some z,k,bytes))
 (hzs : z.cells.size = k) (hk : 0 < k) (hs : a.eval s = v) (ys : List α) (g c : Nat) (hx : a.eval x = .slice (some ⟨g,0,none⟩) ys.length c) (hy : ∀ y,(enc y).length = k) (hc : ∀ j u,(ys.flatMap enc)[j]? = some u → w.cell? ⟨g,j,none⟩ = some u) (h1 : ∀ y,∀ u ∈ enc y,u.oneCell' = true)
 (hl : l.length + ys.length ≤ 1048577) (hby : bytes ≤ 4096)
 (h : ∀ A' c' w',Sep n w0 (es.set i (eOwn enc k T (l ++ ys) (.slice A' (l.length + ys.length) c'))) w' → Off v.ownBlock.toList w w' → K (a.put o.dst (.slice A' (l.length + ys.length) c')) w') :
 if Region.wanted o (yielded ops a.tmps) = true then Oper.wp P o a w K Q else E := by
 refine step_append_at hgd s x t ho 0 T z k bytes ht hi hzs hk v l.length (l.flatMap enc) hs (S.get i hei) ⟨g,0,none⟩ ys.length c (ys.flatMap enc) hx (flat_len hy ys) (fun j u hj => ?_) (fun u hu => ?_) (by simp only [maxLen]; omega) (by have := Nat.mul_le_mul hl hby; omega) (Nat.zero_le _) fun A' c' w' ho' hg hat => h A' c' w' (S.chg i hei _ (Off.grown hg) ?_ (fun g hg => ?_)) (Off.grown hg)
 · have := hc j u hj;unfold Addr.add
   split
   · rename_i h0; subst h0; exact this
   · simpa using this
 · obtain ⟨y,_,hy'⟩ := List.mem_flatMap.1 hu;exact h1 y u hy'
 · show Own enc k T 0 (l ++ ys) _ w'
   unfold Own; rw [List.flatMap_append,List.length_append]; exact ho'
 · simp only [eOwn,Option.mem_toList] at hg ⊢;rcases hat with h | h
   · exact .inl (by rw [← h]; exact hg)
   · rw [h] at hg; cases hg; exact .inr (Nat.le_refl _)
section

theorem count_set_true : ∀ (l : List Bool) (i : Nat),l[i]? = some false → (l.set i true).count false + 1 = l.count false
 | [],i,h => by simp at h
 | b :: l,0,h => by
   simp at h; subst h; simp
 | b :: l,i + 1,h => by
   have := count_set_true l i (by simpa using h);simp only [List.set_cons_succ,List.count_cons];omega
theorem getD_false_some {l : Array Bool} {i : Nat} (h : l.getD i true = false) : l.toList[i]? = some false := by
 rcases Nat.lt_or_ge i l.size with h' | h'
 · simp [h'] at h ⊢; exact h
 · simp [Array.getElem?_eq_none h'] at h

section
variable {P : Program} {ops : Array Oper} {Q : Exit → Act → World → Prop} {md : Region.Mode} {S : World → Prop} {INV : Array Bool → Act → World → Prop} {D : List (List Nat)}

def depsOk (md : Region.Mode) (ops : Array Oper) (D : List (List Nat)) : Bool :=
 (List.range ops.size).all fun i => ((ops[i]?).map fun o => (o.after.all fun e => !Region.binds md e || decide (e.on < i)) && ((D.getD i []).all fun d => o.after.any fun e => e.on == d && Region.binds md e)).getD false
theorem depsOk_at (h : depsOk md ops D = true) {i : Nat} {o : Oper} (ho : ops[i]? = some o) : (∀ e ∈ o.after,Region.binds md e = true → e.on < i) ∧ ∀ d ∈ D.getD i [],∃ e ∈ o.after,e.on = d ∧ Region.binds md e = true := by
 have hi : i < ops.size := (Array.getElem?_eq_some_iff.1 ho).1;have h1 := List.all_eq_true.1 h i (List.mem_range.2 hi);rw [ho] at h1;simp only [Option.map_some,Option.getD_some,Bool.and_eq_true] at h1;refine ⟨fun e he hb => ?_,fun d hd => ?_⟩
 · have := Array.all_eq_true'.1 h1.1 e he;simpa [hb] using this
 · have := List.all_eq_true.1 h1.2 d hd;obtain ⟨e,he,h2⟩ := Array.any_eq_true'.1 this;simp only [Bool.and_eq_true,beq_iff_eq] at h2;exact ⟨e,he,h2⟩
theorem ready_none (h : depsOk md ops D = true) {l : Array Bool} (hr : Region.ready md ops l = []) : ∀ i,i < ops.size → l.getD i true = true := by
 intro i;induction i using Nat.strongRecOn with
 | _ i ih =>
   intro hi;obtain ⟨o,ho⟩ : ∃ o,ops[i]? = some o := ⟨_,Array.getElem?_eq_getElem hi⟩;cases hl : l.getD i true
   · exfalso
     have : i ∈ Region.ready md ops l := mem_ready.2 ⟨hl,o,ho,fun e he hb => by
      have h1 := (depsOk_at h ho).1 e he hb;have h2 := ih e.on h1 (by omega);have : e.on < l.size := by
       rcases Nat.lt_or_ge i l.size with h' | h'
       · omega
       · simp [Array.getElem?_eq_none h'] at hl
      have h3 : l.getD e.on true = l.getD e.on false := by simp [this]
      rw [← h3]; exact h2⟩
     rw [hr] at this;cases this
   · rfl
def StepI (P : Program) (ops : Array Oper) (Q : Exit → Act → World → Prop) (INV : Array Bool → Act → World → Prop) (D : List (List Nat)) (i : Nat) : Prop :=
 ∀ l a w,INV l a w → l.getD i true = false → (∀ d,d ∈ D.getD i [] → l.getD d false = true) → wpOp P ops Q i (INV (l.setIfInBounds i true)) a w
def StepsI (P : Program) (ops : Array Oper) (Q : Exit → Act → World → Prop) (INV : Array Bool → Act → World → Prop) (D : List (List Nat)) (rs : List Nat) : Prop := ∀ i ∈ rs,StepI P ops Q INV D i
theorem StepsI.nil : StepsI P ops Q INV D [] := fun _ h => by cases h
theorem StepsI.cons {i : Nat} {o : Oper} {rs : List Nat} (ho : ops[i]? = some o)
 (h : ∀ l a w,INV l a w → l.getD i true = false → (∀ d,d ∈ D.getD i [] → l.getD d false = true) → ∀ K' : Act → World → Prop,Hid (∀ a w,INV (l.setIfInBounds i true) a w → K' a w) → if Region.wanted o (yielded ops a.tmps) = true then Oper.wp P o a w K' Q else K' (a.put o.dst undef) w)
 (hs : StepsI P ops Q INV D rs) : StepsI P ops Q INV D (i :: rs) := fun j hj => by
 rcases List.mem_cons.1 hj with rfl | hj
 · exact fun l a w hI hl hd => wpOp_step ho (fun K' hK => h l a w hI hl hd K' hK)
 · exact hs j hj
theorem wpAnyH_inv (rs : List Nat) (hd : depsOk md ops D = true) (hS : ∀ l a w,INV l a w → S w) (hrs : ∀ l a w,INV l a w → ((List.range ops.size).all fun i => rs.contains i || l.getD i true) = true)
 (hfin : ∀ l a w,INV l a w → (∀ i,i < ops.size → l.getD i true = true) → Q .normal a w) (hstep : StepsI P ops Q INV D rs) :
 ∀ (fuel : Nat) (l : Array Bool) (a : Act) (w : World),l.toList.count false ≤ fuel → INV l a w → wpAnyH P md ops Q S fuel l a w := by
 intro fuel;induction fuel with
 | zero =>
   intro l a w hc hI;have none_ : Region.ready md ops l = [] := by
    rw [List.eq_nil_iff_forall_not_mem];intro i hi;have h1 := getD_false_some (mem_ready.1 hi).1;have h2 := List.count_pos_iff.2 (List.mem_of_getElem? h1);omega
   exact ⟨none_,hfin l a w hI (ready_none hd none_)⟩
 | succ fuel ih =>
   intro l a w hc hI;refine ⟨fun hr => hfin l a w hI (ready_none hd hr),fun i hi => ?_⟩;obtain ⟨hl,o,ho,hall⟩ := mem_ready.1 hi;have hilt : i < ops.size := (Array.getElem?_eq_some_iff.1 ho).1;have hmem : i ∈ rs := by
    have := List.all_eq_true.1 (hrs l a w hI) i (List.mem_range.2 hilt);rw [hl,Bool.or_false] at this;simpa using this
   refine wpOp_mono (fun a' w' h => ⟨hS _ _ _ h,ih _ a' w' ?_ h⟩) (hstep i hmem l a w hI hl fun d hdm => ?_)
   · have := count_set_true l.toList i (getD_false_some hl);rw [Array.toList_setIfInBounds];omega
   · obtain ⟨e,he,h1,h2⟩ := (depsOk_at hd ho).2 d hdm;rw [← h1]; exact hall e he h2
end

theorem act_name {P : Program} {ops : Array Oper} {Q : Exit → Act → World → Prop} {md : Region.Mode} {S : World → Prop} {fuel : Nat} {l : Array Bool} {a : Act} {w : World} (h : ∀ A0,A0 = a → wpAnyH P md ops Q S fuel l A0 w) : wpAnyH P md ops Q S fuel l a w := h a rfl
def eNo : Ent where
 foot := []
 ok _ := True
 lt w h g hg := by cases hg
 turn w w' h hg := trivial
section
variable {n : Nat} {w0 w w' : World} {es : List Ent}
theorem Sep.no (S : Sep n w0 es w) : Sep n w0 (eNo :: es) w := S.new1 (Below.refl _ _) eNo trivial (by simp [eNo])
theorem Sep.fill (S : Sep n w0 es w) (i : Nat) (hi : es[i]? = some eNo) (hb : Below w.heap.size w w') (e : Ent) (he : e.ok w') (hf : ∀ g,g ∈ e.foot → w.heap.size ≤ g) : Sep n w0 (es.set i e) w' :=
 S.chg i hi e (Off.below hb _) he (fun g hg => .inr (hf g hg))
theorem Sep.fillAlloc (S : Sep n w0 es w) (i : Nat) (hi : es[i]? = some eNo) (T : TypeId) (cs : List Value) {o : Obj} (ho : o = .cells cs.toArray T) {g : Nat} (hg : g = w.heap.size) : Sep n w0 (es.set i (eBlk g T cs)) (w.alloc o) := by
 subst ho; subst hg;exact S.fill i hi (Below.new w _) _ (BlkAt.new w T cs) (by simp [eBlk])
theorem Sep.fill1 (S : Sep n w0 es w) (i : Nat) (hi : es[i]? = some eNo) {e : Ent} (T : Sep w.heap.size w [e] w') : Sep n w0 (es.set i e) w' :=
 S.fill i hi T.fro.b e (T.ok e (by simp)) (fun g hg => T.ge e (by simp) g hg)
end
end
def eBox (t : Nat) (a : Au) (p : AuP) : Ent := (eBlk t 25 [.slice p.A1 a.al.length p.c1,.int .i64 a.n,.slice p.A2 a.mr.length p.c2,.slice p.A3 a.ed.length p.c3]).and ((eInts a.al (.slice p.A1 a.al.length p.c1)).and ((eInts a.mr (.slice p.A2 a.mr.length p.c2)).and (eEds a.ed (.slice p.A3 a.ed.length p.c3))))
theorem Sep.box {n : Nat} {w0 w : World} {t : Nat} {a : Au} {p : AuP} {es : List Ent} (S : Sep n w0 (eBlk t 25 [.slice p.A1 a.al.length p.c1,.int .i64 a.n,.slice p.A2 a.mr.length p.c2,.slice p.A3 a.ed.length p.c3] :: eInts a.al (.slice p.A1 a.al.length p.c1) :: eInts a.mr (.slice p.A2 a.mr.length p.c2) :: eEds a.ed (.slice p.A3 a.ed.length p.c3) :: es) w) : Sep n w0 (eBox t a p :: es) w := by
 have ap := S.ap;simp only [List.pairwise_cons] at ap;refine ⟨S.fro,fun x hx => ?_,fun x hx => ?_,List.pairwise_cons.2 ⟨fun x hx g hg => ?_,ap.2.2.2.2⟩⟩
 · rcases List.mem_cons.1 hx with rfl | hx
   · exact ⟨S.ok _ (by simp),S.ok _ (by simp),S.ok _ (by simp),S.ok _ (by simp)⟩
   · exact S.ok x (by simp [hx])
 · rcases List.mem_cons.1 hx with rfl | hx
   · intro g hg;rcases List.mem_append.1 hg with h | h
     · exact S.ge _ (by simp) g h
     rcases List.mem_append.1 h with h | h
     · exact S.ge (eInts a.al (.slice p.A1 a.al.length p.c1)) (by simp) g h
     rcases List.mem_append.1 h with h | h
     · exact S.ge (eInts a.mr (.slice p.A2 a.mr.length p.c2)) (by simp) g h
     · exact S.ge (eEds a.ed (.slice p.A3 a.ed.length p.c3)) (by simp) g h
   · exact S.ge x (by simp [hx])
 · rcases List.mem_append.1 hg with h | h
   · exact ap.1 x (by simp [hx]) g h
   rcases List.mem_append.1 h with h | h
   · exact ap.2.1 x (by simp [hx]) g h
   rcases List.mem_append.1 h with h | h
   · exact ap.2.2.1 x (by simp [hx]) g h
   · exact ap.2.2.2.1 x hx g h
theorem eBox.at {t : Nat} {a : Au} {p : AuP} {w : World} (h : (eBox t a p).ok w) (hl : Lens a) : Au.At w a p :=
 ⟨OwnI.ints h.2.1,OwnI.ints h.2.2.1,Own.reads (enc := Ed.cells) (k := 3) (T := 70) (B := 0) (fun _ => rfl) h.2.2.2,hl.1,hl.2.1,hl.2.2⟩
theorem eBox.caps {t : Nat} {a : Au} {p : AuP} {w : World} (h : (eBox t a p).ok w) : Caps a p := ⟨Own.cap h.2.1,Own.cap h.2.2.1,Own.cap h.2.2.2⟩
theorem BlkAt.rng {b o T : Nat} {l cs : List Value} {w : World} (h : BlkAt w b T l) (hs : ∀ (j : Nat) v,cs[j]? = some v → l[o + j]? = some v) : w.rangeAt b o cs := fun j v hv => (h.cell (o + j)).trans (hs j v hv)
theorem Sm4.cells_len {d : Sm4} (h : d.Ok) : d.cells.length = 26 := by simp [Sm4.cells,h.l]
theorem Sm4.info {d : Sm4} (h : d.Ok) : (Try.prog.info? 46).map (·.size) = some d.cells.length := by rw [Sm4.cells_len h]; kernel_rfl
theorem DistW.of {a : Au} {x y r : Int} {f : Bool} {l : List Int} (ha : a.Right) (hi : InSt a x y) (h : (r ≠ 0 ∧ l = [] ∧ f = false ∧ (ChkErr a r ∨ a.Right ∧ r = 2 ∧ ¬ InSt a x y)) ∨ (r = 0 ∧ a.Right ∧ InSt a x y ∧ DistW a a x y f l)) : r = 0 ∧ DistW a a x y f l := by
 rcases h with ⟨h1,_,_,h | ⟨_,_,h⟩⟩ | ⟨h1,_,_,h⟩
 · exact absurd (h.uniq (ChkErr.of_right ha)) h1
 · exact absurd hi h
 · exact ⟨h1,h⟩
end Go.Proofs.Ytjjifefanjnghaa
