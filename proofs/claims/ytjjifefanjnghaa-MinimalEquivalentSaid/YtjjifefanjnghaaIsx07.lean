/-
  What the row leans on.
-/
import Derived.Test.YtjjifefanjnghaaIsx06
import Derived.Test.YtjjifefanjnghaaBas07
import Derived.Test.YtjjifefanjnghaaBas09
import Derived.Test.YtjjifefanjnghaaIsx01
import Derived.Test.YtjjifefanjnghaaIsx03
import Derived.Deep.RegionHeld3
import Derived.Test.YtjjifefanjnghaaBas03
set_option linter.unusedSimpArgs false
set_option linter.unusedVariables false
namespace Go.Proofs.Ytjjifefanjnghaa
open Go.RowKit
set_option maxRecDepth 100000
theorem initial8_c (a : Au) (p : AuP) (w : World) :
 Calls Try.prog 50 #[a.val p] w (Ret (.int .i64 a.st) w) := by
 obtain ⟨al,n,mr,ed⟩ := a;obtain ⟨A1,c1,A2,c2,A3,c3⟩ := p;(try dsimp only [Au.val] at *);have B0 := Lib.hid (Below.new w (.cells #[.slice A1 al.length c1,.int .i64 n,.slice A2 mr.length c2,.slice A3 ed.length c3] 25));have q1 : (w.alloc (.cells #[.slice A1 al.length c1,.int .i64 n,.slice A2 mr.length c2,.slice A3 ed.length c3] 25)).cell? ⟨w.heap.size,1,none⟩ = some (.int .i64 n) := new_cell w _ [_,_,_,_] _ 1 rfl;go_enter Try.func50,Try.ntmps50
 by_cases hn : n = 0
 · have hn' : (n == 0) = true := by simpa using hn
   have e : Hid ((⟨al,n,mr,ed⟩ : Au).st = -1) := by simp [Hid,Au.st,hn]
   clear hn;go_wp2
   go_ret
   exact ⟨ret_int e.out.symm,B0.out⟩
 · have hn' : (n == 0) = false := by simpa using hn
   have e : Hid ((⟨al,n,mr,ed⟩ : Au).st = 0) := by simp [Hid,Au.st,hn]
   clear hn;go_wp2
   go_ret
   exact ⟨ret_int e.out.symm,B0.out⟩

set_option maxHeartbeats 800000 in
theorem next8_c (a : Au) (p : AuP) (s ev : Int) (w : World) (h3 : EdsAt w p.A3 a.ed) (l3 : a.ed.length ≤ 140737488355328) :
 Calls Try.prog 44 #[a.val p,.int .i64 s,.int .i64 ev] w (Ret (.int .i64 (nextV a.ed s ev)) w) := by
 obtain ⟨al,n,mr,ed⟩ := a;obtain ⟨A1,c1,A2,c2,A3,c3⟩ := p;(try dsimp only [Au.val] at *);have B0 := Lib.hid (Below.new w (.cells #[.slice A1 al.length c1,.int .i64 n,.slice A2 mr.length c2,.slice A3 ed.length c3] 25));have HE := Lib.hid (h3.below EdE.stays B0.out);have q3 : (w.alloc (.cells #[.slice A1 al.length c1,.int .i64 n,.slice A2 mr.length c2,.slice A3 ed.length c3] 25)).cell? ⟨w.heap.size,3,none⟩ = some (.slice A3 ed.length c3) := new_cell w _ [_,_,_,_] _ 3 rfl;clear h3;go_enter Try.func44,Try.ntmps44
 go_wp2_with fail
 generalize hW : w.alloc (.cells #[.slice A1 al.length c1,.int .i64 n,.slice A2 mr.length c2,.slice A3 ed.length c3] 25) = W at *;clear hW;go_loop [7] (fun i => ∃ k : Nat,k ≤ ed.length ∧ i = .int .i64 k ∧ Hid (∀ j y,j < k → ed[j]? = some y → ¬ (y.src = s ∧ y.ev = ev))) (fun i => ed.length - (intOf i).toNat)
 case atStart => exact ⟨0,by omega,rfl,fun i x h => absurd h (by omega)⟩
 case round =>
  obtain ⟨k,hk,rfl,H⟩ := hrel;by_cases hlt : k < ed.length
  · obtain ⟨b,off,x,rfl,_,hx,hc0,hc1,hc2⟩ := EdsAt.at HE.out hlt;obtain ⟨src,e',dst⟩ := x;dsimp only at hc0 hc1 hc2;have HX := Lib.hid hx;clear hx;by_cases h1 : src = s
    · have h1' : (src == s) = true := by simpa using h1
      have H1 := Lib.hid h1;clear h1;by_cases h2 : e' = ev
      · have h2' : (e' == ev) = true := by simpa using h2
        have H2 := Lib.hid h2;clear h2;go_wp2
        go_ret
        exact ⟨ret_int (nextV_hit H.out HX.out H1.out H2.out).symm,B0.out⟩
      · have h2' : (e' == ev) = false := by simpa using h2
        have H2 := Lib.hid h2;clear h2;go_wp2
        go_round
        case rel => exact ⟨k + 1,by omega,by go_num,fun j z hj hz => by
         by_cases e : j = k
         · subst e; rw [HX.out] at hz; cases hz; exact fun h => H2.out h.2
         · exact H.out j z (by omega) hz⟩
        case measure => simp [intOf]; omega
    · have h1' : (src == s) = false := by simpa using h1
      have H1 := Lib.hid h1;clear h1;go_wp2
      go_round
      case rel => exact ⟨k + 1,by omega,by go_num,fun j z hj hz => by
       by_cases e : j = k
       · subst e; rw [HX.out] at hz; cases hz; exact fun h => H1.out h.1
       · exact H.out j z (by omega) hz⟩
      case measure => simp [intOf]; omega
  · obtain rfl : k = ed.length := by omega
    go_wp2
    go_ret
    exact ⟨ret_int (nextV_miss H.out).symm,B0.out⟩

theorem marked8_c (a : Au) (p : AuP) (s : Int) (w : World) (h2 : IntsAt w p.A2 a.mr) (l2 : a.mr.length ≤ 140737488355328) :
 Calls Try.prog 43 #[a.val p,.int .i64 s] w (Tells (s ∈ a.mr) w) := by
 obtain ⟨al,n,mr,ed⟩ := a;obtain ⟨A1,c1,A2,c2,A3,c3⟩ := p;(try dsimp only [Au.val] at *);have B0 := Lib.hid (Below.new w (.cells #[.slice A1 al.length c1,.int .i64 n,.slice A2 mr.length c2,.slice A3 ed.length c3] 25));have HE := Lib.hid (h2.below IntE.stays B0.out);have q2 : (w.alloc (.cells #[.slice A1 al.length c1,.int .i64 n,.slice A2 mr.length c2,.slice A3 ed.length c3] 25)).cell? ⟨w.heap.size,2,none⟩ = some (.slice A2 mr.length c2) := new_cell w _ [_,_,_,_] _ 2 rfl;clear h2;go_enter Try.func43,Try.ntmps43
 go_wp2_with fail
 generalize hW : w.alloc (.cells #[.slice A1 al.length c1,.int .i64 n,.slice A2 mr.length c2,.slice A3 ed.length c3] 25) = W at *;clear hW;go_loop [5] (fun i => ∃ k : Nat,k ≤ mr.length ∧ i = .int .i64 k ∧ Hid (∀ j y,j < k → mr[j]? = some y → y ≠ s)) (fun i => mr.length - (intOf i).toNat)
 case atStart => exact ⟨0,by omega,rfl,fun i x h => absurd h (by omega)⟩
 case round =>
  obtain ⟨k,hk,rfl,H⟩ := hrel;by_cases hlt : k < mr.length
  · obtain ⟨b,off,y,rfl,_,hy,hcy⟩ := IntsAt.at HE.out hlt;by_cases hyx : y = s
    · have HM := Lib.hid (List.mem_of_getElem? hy);have hyx' : (y == s) = true := by simpa using hyx
      have HYX := Lib.hid hyx;clear hy hyx;go_wp2
      go_ret
      exact ⟨true,rfl,⟨fun _ => HYX.out ▸ HM.out,fun _ => rfl⟩,B0.out⟩
    · have hyx' : (y == s) = false := by simpa using hyx
      have HYX := Lib.hid hyx;have HY := Lib.hid hy;clear hyx hy;go_wp2
      go_round
      case rel => exact ⟨k + 1,by omega,by go_num,fun j z hj hz => by
       by_cases e : j = k
       · subst e; rw [HY.out] at hz; cases hz; exact HYX.out
       · exact H.out j z (by omega) hz⟩
      case measure => simp [intOf]; omega
  · obtain rfl : k = mr.length := by omega
    have HN : Hid (¬ s ∈ mr) := notIn_all H.out;go_wp2
    go_ret
    exact ⟨false,rfl,⟨fun h => by (cases h),fun h => absurd h HN.out⟩,B0.out⟩
section

structure Pw where
 x : Int
 y : Int
 w : List Int
def Pw.pr (p : Pw) : Int × Int := (p.x,p.y)
theorem Bfs.shortW {α : Type} {stp : α → Int → α} {s0 : α} {dead : α → Prop} {evs : List Int} {i k : Nat} {vs : List α} {ws : List (List Int)} (h : Bfs stp s0 dead evs i k vs ws) : ∀ (j : Nat) (w : List Int),ws[j]? = some w → w.length ≤ j := by
 intro j;induction j using Nat.strongRecOn with
 | ind j ih =>
   intro w hw;by_cases h0 : j = 0
   · subst h0; rw [h.zw] at hw; cases hw; simp
   · obtain ⟨b,u,e,_,hb,hu,rfl⟩ := h.pre j w (by omega) hw;have := ih b hb u hu;simp; omega
structure LInv (a b : Au) (s0 : Int × Int) (i k t : Nat) (l : List Pw) : Prop where
 bfs : Bfs (stp2 a b) s0 dead2 ev32 i k (l.map Pw.pr) (l.map Pw.w)
 nd : (l.map Pw.pr).Nodup
 rg : ∀ v,v ∈ l → -1 ≤ v.x ∧ v.x < a.n ∧ -1 ≤ v.y ∧ v.y < b.n
 al : ∀ v,v ∈ l → v.pr ≠ (-1,-1)
 no : ∀ (j : Nat) v,j < t → (l.map Pw.pr)[j]? = some v → pdV a b v = false
section
variable {a b : Au} {s0 : Int × Int} {i k t : Nat} {l : List Pw}
theorem LInv.start (x y : Int) (hx : -1 ≤ x ∧ x < a.n) (hy : -1 ≤ y ∧ y < b.n) (hd : (x,y) ≠ (-1,-1)) : LInv a b (x,y) 0 0 0 [⟨x,y,[]⟩] :=
 ⟨Bfs.start,by simp,fun v hv => by
  simp at hv; subst hv
  simp only; omega,fun v hv => by
  simp at hv; subst hv; exact hd,fun j v h => absurd h (by omega)⟩
theorem LInv.len (h : LInv a b s0 i k t l) (ha : a.Right) (hb : b.Right) : l.length ≤ (a.n.toNat + 2) * (b.n.toNat + 2) := by
 have h1 := nodup_lenN ((a.n.toNat + 2) * (b.n.toNat + 2)) ((l.map Pw.pr).map fun q => (q.1 + 1).toNat * (b.n.toNat + 2) + (q.2 + 1).toNat) ?_ ?_
 · simpa using h1
 · rw [List.nodup_iff_pairwise_ne,List.pairwise_map];refine List.Pairwise.imp_of_mem ?_ (List.nodup_iff_pairwise_ne.1 h.nd);intro p q hp hq hne hc;obtain ⟨v,hv,rfl⟩ := List.mem_map.1 hp;obtain ⟨u,hu,rfl⟩ := List.mem_map.1 hq;have r1 := h.rg v hv;have r2 := h.rg u hu;have n1 := hb.n0;simp only [Pw.pr] at hc hne;have e2 : (v.y + 1).toNat < b.n.toNat + 2 := by omega
   have e3 : (u.y + 1).toNat < b.n.toNat + 2 := by omega
   have e4 : (v.x + 1).toNat = (u.x + 1).toNat := by
    have m1 := Nat.div_eq_of_lt e2;have m2 := Nat.div_eq_of_lt e3;have := congrArg (· / (b.n.toNat + 2)) hc;rw [Nat.mul_comm,Nat.mul_add_div (by omega),m1,Nat.mul_comm,Nat.mul_add_div (by omega),m2] at this;omega
   rw [e4] at hc;exact hne (by rw [Prod.mk.injEq]; omega)
 · intro x hx;obtain ⟨q,hq,rfl⟩ := List.mem_map.1 hx;obtain ⟨v,hv,rfl⟩ := List.mem_map.1 hq;have r1 := h.rg v hv;have n0 := ha.n0;have n1 := hb.n0;simp only [Pw.pr];have e1 : (v.x + 1).toNat + 1 ≤ a.n.toNat + 2 := by omega
   have e2 : (v.y + 1).toNat < b.n.toNat + 2 := by omega
   have := Nat.mul_le_mul_right (b.n.toNat + 2) e1;rw [Nat.succ_mul] at this;omega
theorem LInv.word (h : LInv a b s0 i k t l) {j : Nat} {p : Pw} (hp : l[j]? = some p) : p.w.length ≤ j := h.bfs.shortW j p.w (by rw [List.getElem?_map,hp]; rfl)
theorem LInv.skip (h : LInv a b s0 i k t l) {v : Pw} (hv : l[i]? = some v) (hk : k < 32) (hs : stp2 a b v.pr (k : Int) = (-1,-1) ∨ stp2 a b v.pr (k : Int) ∈ l.map Pw.pr) : LInv a b s0 i (k + 1) t l :=
 ⟨h.bfs.skip ev32_incr (v := v.pr) (by rw [List.getElem?_map,hv]; rfl) (ev32_get hk) (hs.imp id fun g => by
  obtain ⟨j,hj,e⟩ := List.mem_iff_getElem.1 g;exact ⟨j,by rw [List.getElem?_eq_getElem hj,e]⟩),h.nd,h.rg,h.al,h.no⟩
theorem LInv.push (ha : a.Right) (hb : b.Right) (h : LInv a b s0 i k t l) (ht : t ≤ l.length) {v : Pw} (hv : l[i]? = some v) (hk : k < 32) (h1 : ¬ stp2 a b v.pr (k : Int) = (-1,-1)) (h2 : ¬ stp2 a b v.pr (k : Int) ∈ l.map Pw.pr) :
 LInv a b s0 i (k + 1) t (l ++ [⟨(stp2 a b v.pr (k : Int)).1,(stp2 a b v.pr (k : Int)).2,v.w ++ [(k : Int)]⟩]) := by
 have hv' : (l.map Pw.pr)[i]? = some v.pr := by rw [List.getElem?_map,hv]; rfl
 have hw' : (l.map Pw.w)[i]? = some v.w := by rw [List.getElem?_map,hv]; rfl
 refine ⟨?_,?_,fun u hu => ?_,fun u hu => ?_,fun j u hj hu => ?_⟩
 · rw [List.map_append,List.map_append];exact h.bfs.push ev32_incr hv' (ev32_get hk) hw'
 · rw [List.map_append];refine List.nodup_append.2 ⟨h.nd,by simp,fun p hp q hq => ?_⟩;simp at hq
   rintro rfl;refine h2 ?_;rw [hq] at hp;exact hp
 · rcases List.mem_append.1 hu with g | g
   · exact h.rg u g
   · simp at g; subst g
     have := ha.to_cases v.x k;have := hb.to_cases v.y k;have := ha.n0;have := hb.n0;simp only [stp2,Pw.pr];omega
 · rcases List.mem_append.1 hu with g | g
   · exact h.al u g
   · simp at g; subst g
     intro hc;exact h1 (by rw [← hc]; simp [Pw.pr])
 · rw [List.map_append,List.getElem?_append_left (by simp; omega)] at hu;exact h.no j u hj hu
theorem LInv.next (h : LInv a b s0 i 32 t l) : LInv a b s0 (i + 1) 0 t l := ⟨Bfs.next (by rw [ev32_len]; exact h.bfs),h.nd,h.rg,h.al,h.no⟩
theorem LInv.test (h : LInv a b s0 i k i l) {v : Pw} (hv : l[i]? = some v) (hp : pdV a b v.pr = false) : LInv a b s0 i k (i + 1) l :=
 ⟨h.bfs,h.nd,h.rg,h.al,fun j u hj hu => by
  by_cases e : j = i
  · subst e;rw [List.getElem?_map,hv] at hu;cases hu; exact hp
  · exact h.no j u (by omega) hu⟩
theorem LInv.least (ha : a.Right) (hb : b.Right) (h : LInv a b s0 i k i l) {v : Pw} (hv : l[i]? = some v) (hp : pdV a b v.pr = true) : LeastW (LeadsTo (stp2 a b) s0 ev32 (fun q => pdV a b q = true)) v.w :=
 h.bfs.least (dead2_step ha hb) (P := fun q => pdV a b q = true) (fun s hs => by unfold dead2 at hs; subst hs; simp [pdV_dead]) (fun j u hj hu => by rw [h.no j u hj hu]; simp) (show (l.map Pw.pr)[i]? = some v.pr by rw [List.getElem?_map,hv]; rfl) (show (l.map Pw.w)[i]? = some v.w by rw [List.getElem?_map,hv]; rfl) hp
theorem LInv.none_ (ha : a.Right) (hb : b.Right) (h : LInv a b s0 l.length k l.length l) (u : List Int) : ¬ LeadsTo (stp2 a b) s0 ev32 (fun q => pdV a b q = true) u :=
 h.bfs.none_ (dead2_step ha hb) (P := fun q => pdV a b q = true) (fun s hs => by unfold dead2 at hs; subst hs; simp [pdV_dead]) (by simp) (fun j v hv => by
  have hj := (List.getElem?_eq_some_iff.1 hv).1;rw [h.no j v (by simpa using hj) hv]; simp) u
end
theorem stp2_out {a b : Au} (ha : a.Right) (hb : b.Right) (s : Int × Int) (e : Int) (h : ¬ e ∈ unionS a.al b.al) : stp2 a b s e = (-1,-1) := by
 have f : ∀ c : Au,c.Right → ¬ e ∈ c.al → ∀ t,toV (stepOf c.ed) t e = -1 := fun c hc hn t => by
  rw [← hc.next];rcases hc.next_cases t e with g | ⟨_,_,x,hx,_,x2,_⟩
  · exact g
  · obtain ⟨j,hj,hjx⟩ := List.mem_iff_getElem.1 hx;have := (hc.ed j hj x (by rw [List.getElem?_eq_getElem hj,hjx])).2.2.2.2.1;rw [x2] at this;exact absurd this hn
 simp only [stp2];rw [f a ha (fun g => h (mem_unionS.2 (.inl g))),f b hb (fun g => h (mem_unionS.2 (.inr g)))]
theorem fold_dead {a b : Au} (ha : a.Right) (hb : b.Right) : ∀ (w : List Int),w.foldl (stp2 a b) (-1,-1) = (-1,-1)
 | [] => rfl
 | e :: w => by
   rw [List.foldl_cons,dead2_step ha hb (-1,-1) e rfl];exact fold_dead ha hb w
theorem leads_iff {a b : Au} (ha : a.Right) (hb : b.Right) (s0 : Int × Int) (w : List Int) : LeadsTo (stp2 a b) s0 ev32 (fun q => pdV a b q = true) w ↔ LeadsTo (stp2 a b) s0 (unionS a.al b.al) (fun q => pdV a b q = true) w := by
 have key : ∀ (w : List Int) (s : Int × Int),pdV a b (w.foldl (stp2 a b) s) = true → ∀ e,e ∈ w → e ∈ unionS a.al b.al := by
  intro w;induction w with
  | nil => intro s _ e he; cases he
  | cons x r ih =>
    intro s h e he;rw [List.foldl_cons] at h;rcases List.mem_cons.1 he with rfl | g
    · by_cases hm : e ∈ unionS a.al b.al
      · exact hm
      · rw [stp2_out ha hb s e hm,fold_dead ha hb,pdV_dead] at h;cases h
    · exact ih _ h e g
 constructor
 · rintro ⟨_,h2⟩;exact ⟨key w s0 h2,h2⟩
 · rintro ⟨h1,h2⟩;refine ⟨fun e he => ?_,h2⟩;have := mem_unionS.1 (h1 e he);have r : ∀ c : Au,c.Right → e ∈ c.al → 0 ≤ e ∧ e < 32 := fun c hc hm => hc.al.rg e hm;have hr : 0 ≤ e ∧ e < 32 := this.elim (r a ha) (r b hb);unfold ev32
   exact List.mem_map.2 ⟨e.toNat,List.mem_range.2 (by omega),by omega⟩
theorem DistW.uniq {a b : Au} {x y : Int} {f g : Bool} {l m : List Int} (h : DistW a b x y f l) (k : DistW a b x y g m) : f = g ∧ l = m := by
 rcases h with ⟨rfl,h⟩ | ⟨rfl,rfl,h⟩
 · rcases k with ⟨rfl,k⟩ | ⟨rfl,rfl,k⟩
   · exact ⟨rfl,h.uniq k⟩
   · exact absurd h.is (k _)
 · rcases k with ⟨rfl,k⟩ | ⟨rfl,rfl,k⟩
   · exact absurd k.is (h _)
   · exact ⟨rfl,rfl⟩
end
def Ent.and (e f : Ent) : Ent where
 foot := e.foot ++ f.foot
 ok w := e.ok w ∧ f.ok w
 lt w h g hg := (List.mem_append.1 hg).elim (e.lt w h.1 g) (f.lt w h.2 g)
 turn w w' h hg := ⟨e.turn w w' h.1 fun g k => hg g (List.mem_append_left _ k),f.turn w w' h.2 fun g k => hg g (List.mem_append_right _ k)⟩
theorem Sep.join {n : Nat} {w0 w : World} {e f : Ent} {es : List Ent} (S : Sep n w0 (e :: f :: es) w) : Sep n w0 (e.and f :: es) w := by
 have ap := S.ap;rw [List.pairwise_cons,List.pairwise_cons] at ap;refine ⟨S.fro,fun x hx => ?_,fun x hx => ?_,List.pairwise_cons.2 ⟨fun x hx g hg => ?_,ap.2.2⟩⟩
 · rcases List.mem_cons.1 hx with rfl | hx
   · exact ⟨S.ok e (by simp),S.ok f (by simp)⟩
   · exact S.ok x (by simp [hx])
 · rcases List.mem_cons.1 hx with rfl | hx
   · exact fun g hg => (List.mem_append.1 hg).elim (S.ge e (by simp) g) (S.ge f (by simp) g)
   · exact S.ge x (by simp [hx])
 · rcases List.mem_append.1 hg with h | h
   · exact ap.1 x (by simp [hx]) g h
   · exact ap.2.1 x hx g h

structure PrV where
 x : Int
 y : Int
 A : Option Addr
 n : Nat
 c : Nat
def PrV.cells (p : PrV) : List Value := [.int .i64 p.x,.int .i64 p.y,.slice p.A p.n p.c]
theorem prOne (x : PrV) : ∀ u ∈ PrV.cells x,u.oneCell' = true := fun u hu => by simp [PrV.cells] at hu; rcases hu with rfl | rfl | rfl <;> rfl
theorem prInfo : (Try.prog.info? 72).map (fun i => (i.zero,i.size,i.bytes)) = some (some (.agg #[.int .i64 0,.int .i64 0,.slice none 0 0]),3,40) := by kernel_rfl
def WdAt (fs : List Nat) (w : World) (r : PrV) (wd : List Int) : Prop := r.n = wd.length ∧ ((r.A = none ∧ wd = [] ∧ r.c = 0) ∨ ∃ g,r.A = some ⟨g,0,none⟩ ∧ g ∈ fs ∧ ∀ j x,wd[j]? = some x → w.cell? ⟨g,j,none⟩ = some (.int .i64 x))
def eWds (fs : List Nat) (raw : List PrV) (l : List Pw) : Ent where
 foot := fs
 ok w := raw.length = l.length ∧ (∀ g,g ∈ fs → g < w.heap.size) ∧ ∀ (i : Nat) (r : PrV) (p : Pw),raw[i]? = some r → l[i]? = some p → r.x = p.x ∧ r.y = p.y ∧ WdAt fs w r p.w
 lt w h := h.2.1
 turn w w' h hg := by
  refine ⟨h.1,fun g hk => ?_,fun i r p hr hp => ?_⟩
  · have h1 := hg g hk;have h2 := h.2.1 g hk;rw [Array.getElem?_eq_getElem h2] at h1;exact (Array.getElem?_eq_some_iff.1 h1).1
  · obtain ⟨h1,h2,h3,h4⟩ := h.2.2 i r p hr hp;refine ⟨h1,h2,h3,h4.imp id fun ⟨g,e,hm,hc⟩ => ⟨g,e,hm,fun j x hx => ?_⟩⟩;exact (World.cell?_of_block (a := ⟨g,_,none⟩) (hg g hm)).trans (hc j x hx)
theorem WdAt.ints {fs : List Nat} {w : World} {r : PrV} {wd : List Int} (h : WdAt fs w r wd) (hfs : ∀ g,g ∈ fs → g < w.heap.size) : IntsAt w r.A wd := by
 intro hne;rcases h.2 with ⟨_,h2,_⟩ | ⟨g,hA,hm,hc⟩
 · exact absurd h2 hne
 · refine ⟨g,0,hA,hfs g hm,fun i x hx => ⟨[.int .i64 x],rfl,rfl,fun j v hj => ?_⟩⟩;cases j with
   | zero => simp at hj; subst hj; simpa using hc i x hx
   | succ j => simp at hj
theorem Sep.wdCells {n : Nat} {w0 w : World} {es : List Ent} {fs : List Nat} {raw : List PrV} {l : List Pw} (S : Sep n w0 es w) (i : Nat) (hi : es[i]? = some (eWds fs raw l)) {q : Nat} {p : Pw} {g : Nat} {x y : Int} {nn c : Nat} (hr : raw[q]? = some ⟨x,y,some ⟨g,0,none⟩,nn,c⟩) (hp : l[q]? = some p) : ∀ j u,(p.w.flatMap encI)[j]? = some u → w.cell? ⟨g,j,none⟩ = some u := by
 intro j u hj;obtain ⟨_,_,_,h4⟩ := (S.get i hi).2.2 q _ p hr hp;rcases h4 with ⟨h,_⟩ | ⟨g',hA,_,hc⟩
 · cases h
 · cases hA;rw [flat_encI,List.getElem?_map,Option.map_eq_some_iff] at hj;obtain ⟨z,hz,rfl⟩ := hj;exact hc j z hz
theorem Sep.wdsPush {n : Nat} {w0 w : World} {es : List Ent} {fs : List Nat} {raw : List PrV} {l : List Pw} {wd : List Int} {A : Option Addr} {c : Nat} (S : Sep n w0 (eInts wd (.slice A wd.length c) :: eWds fs raw l :: es) w) (x y : Int) :
 Sep n w0 (eWds ((Value.slice A wd.length c).ownBlock.toList ++ fs) (raw ++ [⟨x,y,A,wd.length,c⟩]) (l ++ [⟨x,y,wd⟩]) :: es) w := by
 refine (S.join).as 0 rfl _ (fun h => ?_) (fun g hg => hg);obtain ⟨ho,hl,hz,hc⟩ := h;refine ⟨by simp [hl],fun g hg => ?_,fun i r p hr hp => ?_⟩
 · rcases List.mem_append.1 hg with k | k
   · exact (Own.lt ho g (by simpa using k)).2
   · exact hz g k
 · rcases getElem?_snoc hr with hr | ⟨hi,rfl⟩
   · have hil := (List.getElem?_eq_some_iff.1 hr).1;rw [List.getElem?_append_left (by omega)] at hp;obtain ⟨h1,h2,h3,h4⟩ := hc i r p hr hp;exact ⟨h1,h2,h3,h4.imp id fun ⟨g,e,hm,hk⟩ => ⟨g,e,List.mem_append_right _ hm,hk⟩⟩
   · rw [hi,hl,List.getElem?_append_right (Nat.le_refl _)] at hp;simp at hp
     subst hp;refine ⟨rfl,rfl,rfl,?_⟩;have hI := OwnI.ints ho;rcases ho.2 with ⟨h1,h2⟩ | ⟨g,cap,cur,h1,h2,h3⟩
     · simp only [Value.slice.injEq] at h1;obtain ⟨rfl,_,rfl⟩ := h1;exact .inl ⟨rfl,List.eq_nil_of_length_eq_zero h2,rfl⟩
     · simp only [Value.slice.injEq] at h1;obtain ⟨rfl,_,rfl⟩ := h1;refine .inr ⟨g,rfl,by simp [Value.ownBlock],fun j x hx => ?_⟩;obtain ⟨z,hz1,hz2⟩ := IntsAt.more hI (List.getElem?_eq_some_iff.1 hx).1;rw [hx] at hz1; cases hz1;simpa using hz2
theorem Sep.prs {n : Nat} {w0 w : World} {es : List Ent} {raw : List PrV} {A : Option Addr} {c : Nat} (S : Sep n w0 es w) (i : Nat) (hi : es[i]? = some (eOwn PrV.cells 3 72 raw (.slice A raw.length c))) {k : Nat} (hk : k < raw.length) : ∃ g off x,A = some ⟨g,off,none⟩ ∧ raw[k]? = some x := by
 obtain ⟨b,off,x,vs,hA,_,hx,_⟩ := SlAt.at (Own.reads (enc := PrV.cells) (k := 3) (fun _ => rfl) (S.get i hi)) hk;exact ⟨b,off,x,hA,hx⟩
theorem Sep.prAt {n : Nat} {w0 w : World} {es : List Ent} {raw : List PrV} {g off c : Nat} (S : Sep n w0 es w) (i : Nat) (hi : es[i]? = some (eOwn PrV.cells 3 72 raw (.slice (some ⟨g,off,none⟩) raw.length c))) {k : Nat} {x y : Int} {A : Option Addr} {nn cc : Nat} (hr : raw[k]? = some ⟨x,y,A,nn,cc⟩) :
 w.cell? ⟨g,off + k * 3,none⟩ = some (.int .i64 x) ∧ w.cell? ⟨g,off + k * 3 + 1,none⟩ = some (.int .i64 y) ∧ w.cell? ⟨g,off + k * 3 + 2,none⟩ = some (.slice A nn cc) := by
 obtain ⟨b,o,x',vs,hA,_,hx,_,hE,hc⟩ := SlAt.at (Own.reads (enc := PrV.cells) (k := 3) (fun _ => rfl) (S.get i hi)) (List.getElem?_eq_some_iff.1 hr).1;rw [hr] at hx;cases hx; cases hA
 obtain rfl : vs = PrV.cells _ := hE;exact ⟨by simpa using hc 0 _ rfl,hc 1 _ rfl,hc 2 _ rfl⟩
theorem step_pushNS {P : Program} {α : Type} {enc : α → List Value} {k T n : Nat} {w0 w : World} {es : List Ent} {l : List α} {v : Value} {ops : Array Oper} {o : Oper} {a : Act} {K : Act → World → Prop} {Q : Exit → Act → World → Prop} {E : Prop} (hgd : o.guard = none) (s x : Operand) (t : TypeId)
 (ho : o.op = .call { callee := .builtin .append,args := #[s,x],argTypes := #[t,t] }) (S : Sep n w0 es w) (i : Nat) (hei : es[i]? = some (eOwn enc k T l v))
 (ht : P.underlying t = some (.slice T)) (z : Value) (bytes : Nat) (hi : (P.info? T).map (fun i => (i.zero,i.size,i.bytes)) = some (some z,k,bytes))
 (hzs : z.cells.size = k) (hk : 0 < k) (hs : a.eval s = v) (ys : List α) (g c : Nat) (hx : a.eval x = .slice (some ⟨g,0,none⟩) ys.length c) (hy : ∀ y,(enc y).length = k) (hc : ∀ j u,(ys.flatMap enc)[j]? = some u → w.cell? ⟨g,j,none⟩ = some u) (h1 : ∀ y,∀ u ∈ enc y,u.oneCell' = true)
 (hl : l.length + ys.length ≤ 1048577) (hby : bytes ≤ 4096)
 (h : ∀ A' c' w',Sep n w0 (es.set i (eOwn enc k T (l ++ ys) (.slice A' (l.length + ys.length) c'))) w' → Off v.ownBlock.toList w w' → K (a.put o.dst (.slice A' (l.length + ys.length) c')) w') :
 if Region.wanted o (yielded ops a.tmps) = true then Oper.wp P o a w K Q else E := by
 refine step_append_at hgd s x t ho 0 T z k bytes ht hi hzs hk v l.length (l.flatMap enc) hs (S.get i hei) ⟨g,0,none⟩ ys.length c (ys.flatMap enc) hx (flat_len hy ys) (fun j u hj => ?_) (fun u hu => ?_) (by simp only [maxLen]; omega) (by have := Nat.mul_le_mul hl hby; omega) (Nat.zero_le _) fun A' c' w' ho' hg hat => h A' c' w' (S.chg i hei _ (Off.grown hg) ?_ (fun g hg => ?_)) (Off.grown hg)
 · have := hc j u hj;unfold Addr.add
   split
   · rename_i h0; subst h0; exact this
   · simpa using this
 · obtain ⟨y,_,hy'⟩ := List.mem_flatMap.1 hu;exact h1 y u hy'
 · show Own enc k T 0 (l ++ ys) _ w'
   unfold Own; rw [List.flatMap_append,List.length_append]; exact ho'
 · simp only [eOwn,Option.mem_toList] at hg ⊢;rcases hat with h | h
   · exact .inl (by rw [← h]; exact hg)
   · rw [h] at hg; cases hg; exact .inr (Nat.le_refl _)
section

theorem count_set_true : ∀ (l : List Bool) (i : Nat),l[i]? = some false → (l.set i true).count false + 1 = l.count false
 | [],i,h => by simp at h
 | b :: l,0,h => by
   simp at h; subst h; simp
 | b :: l,i + 1,h => by
   have := count_set_true l i (by simpa using h);simp only [List.set_cons_succ,List.count_cons];omega
theorem getD_false_some {l : Array Bool} {i : Nat} (h : l.getD i true = false) : l.toList[i]? = some false := by
 rcases Nat.lt_or_ge i l.size with h' | h'
 · simp [h'] at h ⊢; exact h
 · simp [Array.getElem?_eq_none h'] at h

section
variable {P : Program} {ops : Array Oper} {Q : Exit → Act → World → Prop} {md : Region.Mode} {S : World → Prop} {INV : Array Bool → Act → World → Prop} {D : List (List Nat)}

def depsOk (md : Region.Mode) (ops : Array Oper) (D : List (List Nat)) : Bool :=
 (List.range ops.size).all fun i => ((ops[i]?).map fun o => (o.after.all fun e => decide (e.on < i)) && ((D.getD i []).all fun d => o.after.any fun e => e.on == d && Region.binds md e)).getD false
theorem depsOk_at (h : depsOk md ops D = true) {i : Nat} {o : Oper} (ho : ops[i]? = some o) : (∀ e ∈ o.after,e.on < i) ∧ ∀ d ∈ D.getD i [],∃ e ∈ o.after,e.on = d ∧ Region.binds md e = true := by
 have hi : i < ops.size := (Array.getElem?_eq_some_iff.1 ho).1;have h1 := List.all_eq_true.1 h i (List.mem_range.2 hi);rw [ho] at h1;simp only [Option.map_some,Option.getD_some,Bool.and_eq_true] at h1;refine ⟨fun e he => ?_,fun d hd => ?_⟩
 · have := Array.all_eq_true'.1 h1.1 e he;simpa using this
 · have := List.all_eq_true.1 h1.2 d hd;obtain ⟨e,he,h2⟩ := Array.any_eq_true'.1 this;simp only [Bool.and_eq_true,beq_iff_eq] at h2;exact ⟨e,he,h2⟩
theorem ready_none (h : depsOk md ops D = true) {l : Array Bool} (hr : Region.ready md ops l = []) : ∀ i,i < ops.size → l.getD i true = true := by
 intro i;induction i using Nat.strongRecOn with
 | _ i ih =>
   intro hi;obtain ⟨o,ho⟩ : ∃ o,ops[i]? = some o := ⟨_,Array.getElem?_eq_getElem hi⟩;cases hl : l.getD i true
   · exfalso
     have : i ∈ Region.ready md ops l := mem_ready.2 ⟨hl,o,ho,fun e he hb => by
      have h1 := (depsOk_at h ho).1 e he;have h2 := ih e.on h1 (by omega);have : e.on < l.size := by
       rcases Nat.lt_or_ge i l.size with h' | h'
       · omega
       · simp [Array.getElem?_eq_none h'] at hl
      have h3 : l.getD e.on true = l.getD e.on false := by simp [this]
      rw [← h3]; exact h2⟩
     rw [hr] at this;cases this
   · rfl
def StepI (P : Program) (ops : Array Oper) (Q : Exit → Act → World → Prop) (INV : Array Bool → Act → World → Prop) (D : List (List Nat)) (i : Nat) : Prop :=
 ∀ l a w,INV l a w → l.getD i true = false → (∀ d,d ∈ D.getD i [] → l.getD d false = true) → wpOp P ops Q i (INV (l.setIfInBounds i true)) a w
def StepsI (P : Program) (ops : Array Oper) (Q : Exit → Act → World → Prop) (INV : Array Bool → Act → World → Prop) (D : List (List Nat)) (rs : List Nat) : Prop := ∀ i ∈ rs,StepI P ops Q INV D i
theorem StepsI.nil : StepsI P ops Q INV D [] := fun _ h => by cases h
theorem StepsI.cons {i : Nat} {o : Oper} {rs : List Nat} (ho : ops[i]? = some o)
 (h : ∀ l a w,INV l a w → l.getD i true = false → (∀ d,d ∈ D.getD i [] → l.getD d false = true) → ∀ K' : Act → World → Prop,Hid (∀ a w,INV (l.setIfInBounds i true) a w → K' a w) → if Region.wanted o (yielded ops a.tmps) = true then Oper.wp P o a w K' Q else K' (a.put o.dst undef) w)
 (hs : StepsI P ops Q INV D rs) : StepsI P ops Q INV D (i :: rs) := fun j hj => by
 rcases List.mem_cons.1 hj with rfl | hj
 · exact fun l a w hI hl hd => wpOp_step ho (fun K' hK => h l a w hI hl hd K' hK)
 · exact hs j hj
theorem wpAnyH_inv (rs : List Nat) (hd : depsOk md ops D = true) (hS : ∀ l a w,INV l a w → S w) (hrs : ∀ l a w,INV l a w → ((List.range ops.size).all fun i => rs.contains i || l.getD i true) = true)
 (hfin : ∀ l a w,INV l a w → (∀ i,i < ops.size → l.getD i true = true) → Q .normal a w) (hstep : StepsI P ops Q INV D rs) :
 ∀ (fuel : Nat) (l : Array Bool) (a : Act) (w : World),l.toList.count false ≤ fuel → INV l a w → wpAnyH P md ops Q S fuel l a w := by
 intro fuel;induction fuel with
 | zero =>
   intro l a w hc hI;have none_ : Region.ready md ops l = [] := by
    rw [List.eq_nil_iff_forall_not_mem];intro i hi;have h1 := getD_false_some (mem_ready.1 hi).1;have h2 := List.count_pos_iff.2 (List.mem_of_getElem? h1);omega
   exact ⟨none_,hfin l a w hI (ready_none hd none_)⟩
 | succ fuel ih =>
   intro l a w hc hI;refine ⟨fun hr => hfin l a w hI (ready_none hd hr),fun i hi => ?_⟩;obtain ⟨hl,o,ho,hall⟩ := mem_ready.1 hi;have hilt : i < ops.size := (Array.getElem?_eq_some_iff.1 ho).1;have hmem : i ∈ rs := by
    have := List.all_eq_true.1 (hrs l a w hI) i (List.mem_range.2 hilt);rw [hl,Bool.or_false] at this;simpa using this
   refine wpOp_mono (fun a' w' h => ⟨hS _ _ _ h,ih _ a' w' ?_ h⟩) (hstep i hmem l a w hI hl fun d hdm => ?_)
   · have := count_set_true l.toList i (getD_false_some hl);rw [Array.toList_setIfInBounds];omega
   · obtain ⟨e,he,h1,h2⟩ := (depsOk_at hd ho).2 d hdm;rw [← h1]; exact hall e he h2
end

theorem act_name {P : Program} {ops : Array Oper} {Q : Exit → Act → World → Prop} {md : Region.Mode} {S : World → Prop} {fuel : Nat} {l : Array Bool} {a : Act} {w : World} (h : ∀ A0,A0 = a → wpAnyH P md ops Q S fuel l A0 w) : wpAnyH P md ops Q S fuel l a w := h a rfl
def eNo : Ent where
 foot := []
 ok _ := True
 lt w h g hg := by cases hg
 turn w w' h hg := trivial
section
variable {n : Nat} {w0 w w' : World} {es : List Ent}
theorem Sep.no (S : Sep n w0 es w) : Sep n w0 (eNo :: es) w := S.new1 (Below.refl _ _) eNo trivial (by simp [eNo])
theorem Sep.fill (S : Sep n w0 es w) (i : Nat) (hi : es[i]? = some eNo) (hb : Below w.heap.size w w') (e : Ent) (he : e.ok w') (hf : ∀ g,g ∈ e.foot → w.heap.size ≤ g) : Sep n w0 (es.set i e) w' :=
 S.chg i hi e (Off.below hb _) he (fun g hg => .inr (hf g hg))
theorem Sep.fillAlloc (S : Sep n w0 es w) (i : Nat) (hi : es[i]? = some eNo) (T : TypeId) (cs : List Value) {o : Obj} (ho : o = .cells cs.toArray T) {g : Nat} (hg : g = w.heap.size) : Sep n w0 (es.set i (eBlk g T cs)) (w.alloc o) := by
 subst ho; subst hg;exact S.fill i hi (Below.new w _) _ (BlkAt.new w T cs) (by simp [eBlk])
theorem Sep.fill1 (S : Sep n w0 es w) (i : Nat) (hi : es[i]? = some eNo) {e : Ent} (T : Sep w.heap.size w [e] w') : Sep n w0 (es.set i e) w' :=
 S.fill i hi T.fro.b e (T.ok e (by simp)) (fun g hg => T.ge e (by simp) g hg)
end
end
def eBox (t : Nat) (a : Au) (p : AuP) : Ent := (eBlk t 25 [.slice p.A1 a.al.length p.c1,.int .i64 a.n,.slice p.A2 a.mr.length p.c2,.slice p.A3 a.ed.length p.c3]).and ((eInts a.al (.slice p.A1 a.al.length p.c1)).and ((eInts a.mr (.slice p.A2 a.mr.length p.c2)).and (eEds a.ed (.slice p.A3 a.ed.length p.c3))))
theorem eBox.at {t : Nat} {a : Au} {p : AuP} {w : World} (h : (eBox t a p).ok w) (hl : Lens a) : Au.At w a p :=
 ⟨OwnI.ints h.2.1,OwnI.ints h.2.2.1,Own.reads (enc := Ed.cells) (k := 3) (T := 70) (B := 0) (fun _ => rfl) h.2.2.2,hl.1,hl.2.1,hl.2.2⟩
theorem eBox.caps {t : Nat} {a : Au} {p : AuP} {w : World} (h : (eBox t a p).ok w) : Caps a p := ⟨Own.cap h.2.1,Own.cap h.2.2.1,Own.cap h.2.2.2⟩
theorem BlkAt.rng {b o T : Nat} {l cs : List Value} {w : World} (h : BlkAt w b T l) (hs : ∀ (j : Nat) v,cs[j]? = some v → l[o + j]? = some v) : w.rangeAt b o cs := fun j v hv => (h.cell (o + j)).trans (hs j v hv)
theorem Sm4.cells_len {d : Sm4} (h : d.Ok) : d.cells.length = 26 := by simp [Sm4.cells,h.l]
theorem Sm4.info {d : Sm4} (h : d.Ok) : (Try.prog.info? 46).map (·.size) = some d.cells.length := by rw [Sm4.cells_len h]; kernel_rfl
theorem DistW.of {a : Au} {x y r : Int} {f : Bool} {l : List Int} (ha : a.Right) (hi : InSt a x y) (h : (r ≠ 0 ∧ l = [] ∧ f = false ∧ (ChkErr a r ∨ a.Right ∧ r = 2 ∧ ¬ InSt a x y)) ∨ (r = 0 ∧ a.Right ∧ InSt a x y ∧ DistW a a x y f l)) : r = 0 ∧ DistW a a x y f l := by
 rcases h with ⟨h1,_,_,h | ⟨_,_,h⟩⟩ | ⟨h1,_,_,h⟩
 · exact absurd (h.uniq (ChkErr.of_right ha)) h1
 · exact absurd hi h
 · exact ⟨h1,h⟩
end Go.Proofs.Ytjjifefanjnghaa
