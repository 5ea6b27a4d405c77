/-
  What the row leans on.
-/
import Derived.Test.YtjjifefanjnghaaBas01
import Derived.Test.YtjjifefanjnghaaIsx07
import Derived.Test.YtjjifefanjnghaaBas09
import Derived.Test.YtjjifefanjnghaaIsx08
import Derived.Test.YtjjifefanjnghaaIsx06
import Derived.Test.YtjjifefanjnghaaIsx03
set_option linter.unusedSimpArgs false
set_option linter.unusedVariables false
namespace Go.Proofs.Ytjjifefanjnghaa
open Go.RowKit
set_option maxRecDepth 100000
def Agree (a b : Au) (x y : Int) (w : List Int) : Prop := (0 ≤ runV a.ed x w ↔ 0 ≤ runV b.ed y w) ∧ (runV a.ed x w ∈ a.mr ↔ runV b.ed y w ∈ b.mr)
theorem Au.Right.run_out {a : Au} (h : a.Right) (w : List Int) {s : Int} (hs : s = -1 ∨ 0 ≤ s) : runV a.ed s w = -1 ∨ 0 ≤ runV a.ed s w := by
 rcases hs with rfl | hs
 · exact .inl (runV_neg _ (by decide) w)
 · exact h.run_cases w s hs
theorem next_dead {a : Au} (h : a.Right) (e : Int) : toV (stepOf a.ed) (-1) e = -1 := by
 have h2 : stp2 a a (-1,-1) e = (-1,-1) := dead2_step h h (-1,-1) e rfl;exact (Prod.mk.inj h2).1
theorem fold2 {a b : Au} (ha : a.Right) (hb : b.Right) : ∀ (w : List Int) (x y : Int),x = -1 ∨ 0 ≤ x → y = -1 ∨ 0 ≤ y → w.foldl (stp2 a b) (x,y) = (runV a.ed x w,runV b.ed y w)
 | [],x,y,_,_ => rfl
 | e :: w,x,y,hx,hy => by
   have f : ∀ c : Au,c.Right → ∀ t,t = -1 ∨ 0 ≤ t → runV c.ed (toV (stepOf c.ed) t e) w = runV c.ed t (e :: w) := fun c hc t ht => by
    rcases ht with rfl | ht
    · rw [next_dead hc e,runV_neg _ (by decide),runV_neg _ (by decide)]
    · rw [runV_cons ht,hc.next]
   have g : ∀ c : Au,c.Right → ∀ t,toV (stepOf c.ed) t e = -1 ∨ 0 ≤ toV (stepOf c.ed) t e := fun c hc t => (hc.to_cases t e).imp id And.left;rw [List.foldl_cons];show w.foldl (stp2 a b) (toV (stepOf a.ed) x e,toV (stepOf b.ed) y e) = _
   rw [fold2 ha hb w _ _ (g a ha x) (g b hb y),f a ha x hx,f b hb y hy]
theorem pd_over {a b : Au} (ha : a.Right) (hb : b.Right) : ∀ (w : List Int) (s : Int × Int),pdV a b (w.foldl (stp2 a b) s) = true → ∀ e,e ∈ w → e ∈ unionS a.al b.al
 | [],s,_,e,he => by cases he
 | x :: r,s,h,e,he => by
   rw [List.foldl_cons] at h;rcases List.mem_cons.1 he with rfl | g
   · by_cases hm : e ∈ unionS a.al b.al
     · exact hm
     · rw [stp2_out ha hb s e hm,fold_dead ha hb,pdV_dead] at h;cases h
   · exact pd_over ha hb r _ h e g
theorem pdV_agree {a b : Au} (ha : a.Right) (hb : b.Right) {r s : Int} (hr : r = -1 ∨ 0 ≤ r) (hs : s = -1 ∨ 0 ≤ s) : pdV a b (r,s) = true ↔ ¬ ((0 ≤ r ↔ 0 ≤ s) ∧ (r ∈ a.mr ↔ s ∈ b.mr)) := by
 have m : ∀ c : Au,c.Right → ¬ (-1 : Int) ∈ c.mr := fun c hc h => by have := hc.mem h; omega
 have ma := m a ha;have mb := m b hb;unfold pdV
 rcases hr with rfl | hr <;> rcases hs with rfl | hs
 · simp [ma,mb]
 · have e : ¬ (((-1 : Int),s) = (-1,-1)) := fun h => by have := (Prod.mk.inj h).2; omega
   rw [if_neg e];simp only [decide_true,Bool.true_or,true_iff];exact fun h => by have := h.1.2 hs; omega
 · have e : ¬ ((r,(-1 : Int)) = (-1,-1)) := fun h => by have := (Prod.mk.inj h).1; omega
   rw [if_neg e];simp only [decide_true,Bool.or_true,Bool.true_or,true_iff];exact fun h => by have := h.1.1 hr; omega
 · have e : ¬ ((r,s) = (-1,-1)) := fun h => by have := (Prod.mk.inj h).1; omega
   rw [if_neg e];have e1 : decide (r = -1) = false := decide_eq_false (by omega);have e2 : decide (s = -1) = false := decide_eq_false (by omega);simp only [e1,e2,Bool.false_or];by_cases h1 : r ∈ a.mr <;> by_cases h2 : s ∈ b.mr <;> simp [h1,h2,hr,hs]
theorem leads_tell {a b : Au} (ha : a.Right) (hb : b.Right) {x y : Int} (hx : x = -1 ∨ 0 ≤ x) (hy : y = -1 ∨ 0 ≤ y) (w : List Int) : LeadsTo (stp2 a b) (x,y) (unionS a.al b.al) (fun q => pdV a b q = true) w ↔ ¬ Agree a b x y w := by
 have h := pdV_agree ha hb (ha.run_out w hx) (hb.run_out w hy);have h2 := fold2 ha hb w x y hx hy;constructor
 · rintro ⟨_,h1⟩;have h1 : pdV a b (w.foldl (stp2 a b) (x,y)) = true := h1;rw [h2] at h1;exact h.1 h1
 · intro h1;have h3 : pdV a b (w.foldl (stp2 a b) (x,y)) = true := by rw [h2]; exact h.2 h1
   exact ⟨pd_over ha hb w _ h3,h3⟩
theorem DistW.cases {a b : Au} (ha : a.Right) (hb : b.Right) {x y : Int} (hx : x = -1 ∨ 0 ≤ x) (hy : y = -1 ∨ 0 ≤ y) {f : Bool} {l : List Int} (h : DistW a b x y f l) : f = true ∧ LeastW (fun w => ¬ Agree a b x y w) l ∨ f = false ∧ l = [] ∧ ∀ u,Agree a b x y u := by
 rcases h with ⟨h1,h2⟩ | ⟨h1,h2,h3⟩
 · exact .inl ⟨h1,h2.congr (fun w => leads_tell ha hb hx hy w)⟩
 · exact .inr ⟨h1,h2,fun u => Classical.byContradiction fun g => h3 u ((leads_tell ha hb hx hy u).2 g)⟩
section
attribute [local go_sem] Oper.semAt_some
end
section
attribute [local go_sem] Oper.semAt_some

def shE (x : Ed) : Ed := ⟨x.src,x.ev + 1,x.dst⟩
def GivesSh (l : List Ed) (w : World) (e : Ending) (w' : World) : Prop := ∃ A c,e = .returned (.slice A (l.map shE).length c) ∧ (SepW w [eEds (l.map shE) (.slice A (l.map shE).length c)] w')
set_option maxHeartbeats 4000000 in
theorem shifted8_c (A : Option Addr) (c : Nat) (l : List Ed) (w : World) (hE : EdsAt w A l) (hl : l.length ≤ 100000) (hr : ∀ x,x ∈ l → 0 ≤ x.ev ∧ x.ev ≤ 1000) :
 Calls Try.prog 30 #[.slice A l.length c] w (GivesSh l w) := by
 have HE := Lib.hid hE;have HR := Lib.hid hr;clear hE hr;have S0 : (SepW w [eEds ((l.take 0).map shE) (.slice none 0 0)] w) := (Sep.here w).nilOwn Ed.cells 3 70;go_enter Try.func30,Try.ntmps30
 go_wp2_with fail
 go_loopw [3,4] (fun v j wr => ∃ (k : Nat) (v' : Value),j = .int .i64 ↑k ∧ k ≤ l.length ∧ v = v' ∧ (SepW w [eEds ((l.take k).map shE) v'] wr)) (fun _ j _ => l.length - (intOf j).toNat)
 case atStart => exact ⟨0,_,rfl,Nat.zero_le _,rfl,S0.out⟩
 case round =>
  clear S0;obtain ⟨k,v,rfl,hk,rfl,S⟩ := hrel;obtain ⟨AL,cL,hv⟩ := S.out.form 0 rfl;subst hv;by_cases hlt : k < l.length
  · obtain ⟨b,off,x,rfl,hbl,hx,y0,y1,y2⟩ := EdE.cells3 HE.out hlt;obtain ⟨src,ev,dst⟩ := x;dsimp only at y0 y1 y2;have HY : Hid (∀ V,Below w.heap.size w V → V.cell? ⟨b,off + k * 3,none⟩ = some (.int .i64 src) ∧ V.cell? ⟨b,off + k * 3 + 1,none⟩ = some (.int .i64 ev) ∧ V.cell? ⟨b,off + k * 3 + 2,none⟩ = some (.int .i64 dst)) := fun V hV =>
     ⟨(hV.cell hbl).trans y0,(hV.cell hbl).trans y1,(hV.cell hbl).trans y2⟩
    have hev : 0 ≤ ev ∧ ev ≤ 1000 := HR.out _ (List.mem_of_getElem? hx);have hwr : IntKind.i64.wrap (ev + 1) = ev + 1 := IntWalk.i64_in _ (by omega);have HT : Hid ((l.take (k + 1)).map shE = (l.take k).map shE ++ [⟨src,ev + 1,dst⟩]) := by rw [Hid,List.take_add_one,hx]; simp [shE]
    clear y0 y1 y2 hx;have hlk : ((l.take k).map shE).length = k := by simp; omega
    rw [hlk] at S;rw [hlk];have hln : l.length ≤ 100000 := hl;go_upto_region 5 with fail
    have S1 := Lib.hid S.out.drew;refine wp_region_held_drew (S := (fun V => Sep w.heap.size w [] V)) (by kernel_rfl) ?_ (fun hH => ?_)
    · exact S1.out.pick [] (by decide)
    generalize hwz : wr.drew = w1 at *;clear hwz;refine tkP 0 rfl (v := ?_) hH ?_;(try simp only [sx]);refine tkP 1 rfl (v := ?_) hH ?_;(try simp only [sx]);refine tkP 2 rfl (v := ?_) hH ?_;(try simp only [sx]);refine tkP 3 rfl (v := ?_) hH ?_;(try simp only [sx]);refine tkP 4 rfl (v := ?_) hH ?_;(try simp only [sx]);refine tkH 5 rfl (v := ?_) (by kernel_rfl) ?_ hH ?_;rotate_left
    · intro V hs_;have y3 := HY.out V (Sep.below (show Sep w.heap.size w _ V from hs_));obtain ⟨y0,y1,y2⟩ := y3;clear hs_;first | (go_simp; done) | (go_simp; with_reducible rfl)
    (try simp only [sx]);refine tkP 6 rfl (v := ?_) hH ?_;(try simp only [sx]);refine tkP 7 rfl (v := ?_) hH ?_;(try simp only [sx]);refine tkP 8 rfl (v := ?_) hH ?_;(try simp only [sx]);refine tkP 9 rfl (v := ?_) hH ?_;(try simp only [sx]);refine tkH 10 rfl (v := ?_) (by kernel_rfl) ?_ hH ?_;rotate_left
    · intro V hs_;have y3 := HY.out V (Sep.below (show Sep w.heap.size w _ V from hs_));obtain ⟨y0,y1,y2⟩ := y3;clear hs_;first | (go_simp; done) | (go_simp; with_reducible rfl)
    (try simp only [sx]);refine tkP 11 rfl (v := ?_) hH ?_;(try simp only [sx]);refine tkP 12 rfl (v := ?_) hH ?_;(try simp only [sx]);refine tkP 13 rfl (v := ?_) hH ?_;(try simp only [sx]);refine tkP 14 rfl (v := ?_) hH ?_;(try simp only [sx]);refine tkP 15 rfl (v := ?_) hH ?_;(try simp only [sx]);refine tkH 16 rfl (v := ?_) (by kernel_rfl) ?_ hH ?_;rotate_left
    · intro V hs_;have y3 := HY.out V (Sep.below (show Sep w.heap.size w _ V from hs_));obtain ⟨y0,y1,y2⟩ := y3;clear hs_;first | (go_simp; done) | (go_simp; with_reducible rfl)
    (try simp only [sx]);refine tkP 17 rfl (v := ?_) hH ?_;(try simp only [sx]);refine rdH 18 rfl fun K hK => ?_;go_simp;obtain ⟨nbx,hnbx⟩ : ∃ n,n = w1.heap.size := ⟨_,rfl⟩;obtain ⟨w2,hw2⟩ : ∃ v,v = w1.alloc (.cells #[.int .i64 src,.int .i64 (ev + 1),.int .i64 dst] 70) := ⟨_,rfl⟩;rw [← hw2,← hnbx];have S2 := ckA S1.out hw2 hnbx;skip;clear hw2 hnbx;refine hK.out _ _ (S2.out.pick [] (by decide)) fun hH => ?_;clear hK K;(try simp only [sx]);refine rdH 19 rfl fun K hK => ?_;refine step_pushS rfl (.tmp 11) (.tmp 29) 23 rfl S2.out 1 rfl Try.underlying23 _ 24 edInfo rfl (by decide) rfl ⟨src,ev + 1,dst⟩ nbx rfl rfl (fun j u hj => (BlkAt.cell (S2.out.get 0 rfl) j).trans hj) (edOne _) (by simp; omega) (by decide) ?_;intro A3 c3 w3 S3' _;have S3 := Lib.hid S3';clear S3';rw [hlk] at S3;refine hK.out _ _ (S3.out.pick [] (by decide)) fun hH => ?_;clear hK K;(try simp only [sx]);refine tkP 20 rfl (v := ?_) hH ?_;(try simp only [sx]);refine wpAnyH_done (by kernel_rfl) ?_ _;go_wp2_with fail
    go_roundw
    case rel => exact ⟨k + 1,_,by go_num,hlt,rfl,by rw [HT.out]; exact S3.out.pick [1] (by decide)⟩
    case measure => simp [intOf]; omega
  · obtain rfl : k = l.length := by omega
    rw [List.take_length] at S;rw [List.take_length];go_wp2_with fail
    go_ret
    exact ⟨_,_,rfl,S.out⟩
end
section
attribute [local go_sem] Oper.semAt_some

set_option maxHeartbeats 4000000 in
theorem least8_nil (a b : Au) (p q : AuP) (w : World) :
 Calls Try.prog 22 #[a.val p,b.val q,.int .i64 (-1),.int .i64 (-1)] w (Ret (.tuple #[.slice none 0 0,.bool false]) w) := by
 obtain ⟨al,n,mr,ed⟩ := a;obtain ⟨A1,c1,A2,c2,A3,c3⟩ := p;obtain ⟨bl,k,ms,es⟩ := b;obtain ⟨B1,d1,B2,d2,B3,d3⟩ := q;(try dsimp only [Au.val] at *);go_enter Try.func22,Try.ntmps22
 go_upto_region 1 with fail
 refine wp_world (fun W => Sep w.heap.size w [eBlk (w.heap.size + 1) 25 [.slice B1 bl.length d1,.int .i64 k,.slice B2 ms.length d2,.slice B3 es.length d3],eBlk w.heap.size 25 [.slice A1 al.length c1,.int .i64 n,.slice A2 mr.length c2,.slice A3 ed.length c3]] W) ?_ fun W S => ?_
 · exact ((Sep.here w).alloc' _ [_,_,_,_] rfl rfl).alloc' _ [_,_,_,_] rfl (by simp)
 have S0 := Lib.hid S;clear S;go_upto_region 2 with fail
 obtain ⟨b0,hb0⟩ : ∃ b,b = W.heap.size := ⟨_,rfl⟩;rw [← hb0];refine wp_world (fun V => Sep w.heap.size w [eOwn PrV.cells 3 72 [⟨-1,-1,none,0,0⟩] (.slice (some ⟨b0,0,none⟩) 1 1),eBlk (w.heap.size + 1) 25 [.slice B1 bl.length d1,.int .i64 k,.slice B2 ms.length d2,.slice B3 es.length d3],eBlk w.heap.size 25 [.slice A1 al.length c1,.int .i64 n,.slice A2 mr.length c2,.slice A3 ed.length c3]] V) ?_ fun W2 S => ?_
 · exact (S0.out.alloc' 72 [.int .i64 (-1),.int .i64 (-1),.slice none 0 0] rfl hb0).own 0 rfl PrV.cells 3 [⟨-1,-1,none,0,0⟩] rfl (fun _ => rfl) (by simp [maxLen])
 have S2 := Lib.hid S;clear S S0 hb0;go_wp2_with fail
 go_loopw [10,11] (fun v j wr => ∃ (i : Nat),j = .int .i64 ↑i ∧ v = .slice (some ⟨b0,0,none⟩) 1 1 ∧ i ≤ 1 ∧ (SepW w [eOwn PrV.cells 3 72 [⟨-1,-1,none,0,0⟩] (.slice (some ⟨b0,0,none⟩) 1 1),eBlk (w.heap.size + 1) 25 [.slice B1 bl.length d1,.int .i64 k,.slice B2 ms.length d2,.slice B3 es.length d3],eBlk w.heap.size 25 [.slice A1 al.length c1,.int .i64 n,.slice A2 mr.length c2,.slice A3 ed.length c3]] wr)) (fun _ j _ => 1 - (intOf j).toNat)
 case atStart => exact ⟨0,rfl,rfl,Nat.zero_le _,S2.out⟩
 case round =>
  clear S2;obtain ⟨i,rfl,rfl,hi,S⟩ := hrel;by_cases hlt : i < 1
  · obtain rfl : i = 0 := by omega
    obtain ⟨y0,y1,y2⟩ := Sep.prAt (raw := [⟨-1,-1,none,0,0⟩]) (k := 0) S.out 0 rfl rfl;simp only [Nat.zero_mul,Nat.add_zero,Nat.zero_add] at y0 y1 y2;obtain ⟨bp,hbp⟩ : ∃ b,b = wr.heap.size := ⟨_,rfl⟩;go_upto_region 6 with fail
    refine wp_world (fun V => Sep w.heap.size w [eBlk bp 72 [.int .i64 (-1),.int .i64 (-1),.slice none 0 0],eOwn PrV.cells 3 72 [⟨-1,-1,none,0,0⟩] (.slice (some ⟨b0,0,none⟩) 1 1),eBlk (w.heap.size + 1) 25 [.slice B1 bl.length d1,.int .i64 k,.slice B2 ms.length d2,.slice B3 es.length d3],eBlk w.heap.size 25 [.slice A1 al.length c1,.int .i64 n,.slice A2 mr.length c2,.slice A3 ed.length c3]] V) ?_ fun wp S' => ?_
    · exact S.out.alloc' 72 [.int .i64 (-1),.int .i64 (-1),.slice none 0 0] rfl hbp
    have S5 := Lib.hid S';rw [← hbp];clear S' S hbp y0 y1 y2;go_cut [53] (fun v wx => v = .bool false ∧ (SepW w [eBlk bp 72 [.int .i64 (-1),.int .i64 (-1),.slice none 0 0],eOwn PrV.cells 3 72 [⟨-1,-1,none,0,0⟩] (.slice (some ⟨b0,0,none⟩) 1 1),eBlk (w.heap.size + 1) 25 [.slice B1 bl.length d1,.int .i64 k,.slice B2 ms.length d2,.slice B3 es.length d3],eBlk w.heap.size 25 [.slice A1 al.length c1,.int .i64 n,.slice A2 mr.length c2,.slice A3 ed.length c3]] wx))
    case first =>
     have S1 := Lib.hid S5.out.drew;refine wp_region_held_drew (S := (fun V => Sep w.heap.size w [eBlk bp 72 [.int .i64 (-1),.int .i64 (-1),.slice none 0 0]] V)) (by kernel_rfl) ?_ (fun hH => ?_)
     · exact S1.out.pick [0] (by decide)
     generalize hwz : wp.drew = w1 at *;clear hwz;refine tkP 0 rfl (v := ?_) hH ?_;(try simp only [sx]);refine tkH 1 rfl (v := ?_) (by kernel_rfl) ?_ hH ?_;rotate_left
     · intro V hs_;have z0 := ckC hs_ 0 rfl 0 rfl;have z1 := ckC hs_ 0 rfl 1 rfl;clear hs_;first | (go_simp; done) | (go_simp; with_reducible rfl)
     (try simp only [sx]);refine tkP 2 rfl (v := ?_) hH ?_;(try simp only [sx]);refine tkP 3 rfl (v := ?_) hH ?_;(try simp only [sx]);refine tkH 4 rfl (v := ?_) (by kernel_rfl) ?_ hH ?_;rotate_left
     · intro V hs_;have z0 := ckC hs_ 0 rfl 0 rfl;have z1 := ckC hs_ 0 rfl 1 rfl;clear hs_;first | (go_simp; done) | (go_simp; with_reducible rfl)
     (try simp only [sx]);refine tkP 5 rfl (v := ?_) hH ?_;(try simp only [sx]);refine tkP 6 rfl (v := ?_) hH ?_;(try simp only [sx]);refine tkP 7 rfl (v := ?_) hH ?_;(try simp only [sx]);refine tkP 8 rfl (v := ?_) hH ?_;(try simp only [sx]);refine tkH 9 rfl (v := ?_) (by kernel_rfl) ?_ hH ?_;rotate_left
     · intro V hs_;have z0 := ckC hs_ 0 rfl 0 rfl;have z1 := ckC hs_ 0 rfl 1 rfl;clear hs_;first | (go_simp; done) | (go_simp; with_reducible rfl)
     (try simp only [sx]);refine tkP 10 rfl (v := ?_) hH ?_;(try simp only [sx]);refine tkP 11 rfl (v := ?_) hH ?_;(try simp only [sx]);refine wpAnyH_take (i := 12) (v := undef) rfl (by kernel_rfl) (by kernel_rfl) (by kernel_rfl) (fun _ _ _ h => h) (Or.inr ⟨?_,rfl⟩) hH ?_
     · kernel_rfl
     (try simp only [sx]);refine wpAnyH_take (i := 13) (v := undef) rfl (by kernel_rfl) (by kernel_rfl) (by kernel_rfl) (fun _ _ _ h => h) (Or.inr ⟨?_,rfl⟩) hH ?_
     · kernel_rfl
     (try simp only [sx]);refine wpAnyH_take (i := 14) (v := undef) rfl (by kernel_rfl) (by kernel_rfl) (by kernel_rfl) (fun _ _ _ h => h) (Or.inr ⟨?_,rfl⟩) hH ?_
     · kernel_rfl
     (try simp only [sx]);refine wpAnyH_take (i := 15) (v := undef) rfl (by kernel_rfl) (by kernel_rfl) (by kernel_rfl) (fun _ _ _ h => h) (Or.inr ⟨?_,rfl⟩) hH ?_
     · kernel_rfl
     (try simp only [sx]);refine wpAnyH_take (i := 16) (v := undef) rfl (by kernel_rfl) (by kernel_rfl) (by kernel_rfl) (fun _ _ _ h => h) (Or.inr ⟨?_,rfl⟩) hH ?_
     · kernel_rfl
     (try simp only [sx]);refine wpAnyH_take (i := 17) (v := undef) rfl (by kernel_rfl) (by kernel_rfl) (by kernel_rfl) (fun _ _ _ h => h) (Or.inr ⟨?_,rfl⟩) hH ?_
     · kernel_rfl
     (try simp only [sx]);refine wpAnyH_take (i := 18) (v := undef) rfl (by kernel_rfl) (by kernel_rfl) (by kernel_rfl) (fun _ _ _ h => h) (Or.inr ⟨?_,rfl⟩) hH ?_
     · kernel_rfl
     (try simp only [sx]);refine wpAnyH_take (i := 19) (v := undef) rfl (by kernel_rfl) (by kernel_rfl) (by kernel_rfl) (fun _ _ _ h => h) (Or.inr ⟨?_,rfl⟩) hH ?_
     · kernel_rfl
     (try simp only [sx]);refine wpAnyH_take (i := 20) (v := undef) rfl (by kernel_rfl) (by kernel_rfl) (by kernel_rfl) (fun _ _ _ h => h) (Or.inr ⟨?_,rfl⟩) hH ?_
     · kernel_rfl
     (try simp only [sx]);refine tkP 21 rfl (v := ?_) hH ?_;(try simp only [sx]);refine tkP 22 rfl (v := ?_) hH ?_;(try simp only [sx]);refine wpAnyH_done (by kernel_rfl) ?_ _;go_wp2_with fail
     go_meet
     exact ⟨rfl,S1.out⟩
    case rest =>
     obtain ⟨rfl,S6⟩ := hcut;clear S5;have bp0 := ckC S6.out 0 rfl 0 rfl;go_wp2_with fail
     go_roundw
     case rel => exact ⟨1,by go_num,rfl,Nat.le_refl _,S6.out.drop1⟩
     case measure => simp [intOf]
  · obtain rfl : i = 1 := by omega
    go_wp2_with fail
    refine bodyPost_ret (v := .tuple #[.slice none 0 0,.bool false]) (by simp [results,Try.results22,go_sem]) rfl ?_;exact ⟨rfl,S.out.below⟩
theorem least8_any (a b : Au) (p q : AuP) (x y : Int) (w : World) (ha : a.Right) (hb : b.Right) (hA : Au.At w a p) (hB : Au.At w b q) (hx : -1 ≤ x ∧ x < a.n ∨ x = -1) (hy : -1 ≤ y ∧ y < b.n ∨ y = -1) (hN : (a.n.toNat + 2) * (b.n.toNat + 2) ≤ 1000000) :
 Calls Try.prog 22 #[a.val p,b.val q,.int .i64 x,.int .i64 y] w (GivesL8 a b x y w) := by
 have n0 := ha.n0;have m0 := hb.n0;by_cases hd : (x,y) = (-1,-1)
 · obtain ⟨rfl,rfl⟩ := Prod.mk.inj hd;refine (least8_nil a b p q w).mono ?_;rintro e w' ⟨rfl,hw⟩;exact ⟨none,0,[],false,rfl,fun h => absurd rfl h,hw,.inr ⟨rfl,rfl,fun u hu => by have h := hu.2; rw [fold_dead ha hb] at h; simp [pdV_dead] at h⟩,by simp⟩
 · exact least8_c a b p q x y w ha hb hA hB (by omega) (by omega) hd hN
theorem Au.Right.st_rg {a : Au} (h : a.Right) : -1 ≤ a.st ∧ a.st < a.n ∨ a.st = -1 := by
 have := h.n0;unfold Au.st
 split <;> omega
def GivesE8 (a b : Au) (w : World) (e : Ending) (w' : World) : Prop := ∃ (A : Option Addr) (c : Nat) (l : List Int) (f : Bool),e = .returned (.tuple #[.bool (!f),.slice A l.length c]) ∧ Hid (IntsAt w' A l) ∧ Below w.heap.size w w' ∧ Hid (DistW a b a.st b.st f l ∧ l.length ≤ 1000000)
set_option maxHeartbeats 4000000 in
theorem equiv8_c (a b : Au) (p q : AuP) (w : World) (ha : a.Right) (hb : b.Right) (hA : Au.At w a p) (hB : Au.At w b q) (hN : (a.n.toNat + 2) * (b.n.toNat + 2) ≤ 1000000) :
 Calls Try.prog 31 #[a.val p,b.val q] w (GivesE8 a b w) := by
 have HSX := Lib.hid ha.st_rg;have HSY := Lib.hid hb.st_rg;have HRA := Lib.hid ha;have HRB := Lib.hid hb;have HA := Lib.hid hA;have HB := Lib.hid hB;have HN := Lib.hid hN;obtain ⟨sx,hsx⟩ : ∃ s,a.st = s := ⟨_,rfl⟩;obtain ⟨sy,hsy⟩ : ∃ s,b.st = s := ⟨_,rfl⟩;rw [hsx] at HSX;rw [hsy] at HSY;have EX := Lib.hid hsx;have EY := Lib.hid hsy;have HDD : Hid (∀ f l,DistW a b sx sy f l → DistW a b a.st b.st f l) := fun f l h => by rw [hsx,hsy]; exact h
 have CX : Hid (∀ (p : AuP) (W : World),Calls Try.prog 50 #[a.val p] W (Ret (.int .i64 sx) W)) := fun p W => by rw [← hsx]; exact initial8_c a p W
 have CY : Hid (∀ (q : AuP) (W : World),Calls Try.prog 50 #[b.val q] W (Ret (.int .i64 sy) W)) := fun p W => by rw [← hsy]; exact initial8_c b p W
 clear hsx hsy EX EY;obtain ⟨al,n,mr,ed⟩ := a;obtain ⟨A1,c1,A2,c2,A3,c3⟩ := p;obtain ⟨bl,k,ms,es⟩ := b;obtain ⟨B1,d1,B2,d2,B3,d3⟩ := q;(try dsimp only [Au.val] at *);clear ha hb hA hB hN;go_enter Try.func31,Try.ntmps31
 go_upto_region 1 with fail
 refine wp_world (fun W => Sep w.heap.size w [eBlk (w.heap.size + 1) 25 [.slice B1 bl.length d1,.int .i64 k,.slice B2 ms.length d2,.slice B3 es.length d3],eBlk w.heap.size 25 [.slice A1 al.length c1,.int .i64 n,.slice A2 mr.length c2,.slice A3 ed.length c3]] W) ?_ fun W S => ?_
 · exact ((Sep.here w).alloc' _ [_,_,_,_] rfl rfl).alloc' _ [_,_,_,_] rfl (by simp)
 have S0 := Lib.hid S;clear S;have S2 := Lib.hid S0.out.drew;refine wp_region_held_drew (S := (fun V => Sep w.heap.size w [eBlk (w.heap.size + 1) 25 [.slice B1 bl.length d1,.int .i64 k,.slice B2 ms.length d2,.slice B3 es.length d3],eBlk w.heap.size 25 [.slice A1 al.length c1,.int .i64 n,.slice A2 mr.length c2,.slice A3 ed.length c3]] V)) (by kernel_rfl) ?_ (fun hH => ?_)
 · exact S2.out.pick [0,1] (by decide)
 generalize hwz : W.drew = w2 at *;clear hwz;refine tkH 0 rfl (v := ?_) (by kernel_rfl) ?_ hH ?_;rotate_left
 · intro V hs_;have a0 := ckC hs_ 1 rfl 0 rfl;have a1 := ckC hs_ 1 rfl 1 rfl;have a2 := ckC hs_ 1 rfl 2 rfl;have a3 := ckC hs_ 1 rfl 3 rfl;clear hs_;first | (go_simp; done) | (go_simp; with_reducible rfl)
 (try simp only [sx]);refine tkH 1 rfl (v := ?_) (by kernel_rfl) ?_ hH ?_;rotate_left
 · intro V hs_;have b0 := ckC hs_ 0 rfl 0 rfl;have b1 := ckC hs_ 0 rfl 1 rfl;have b2 := ckC hs_ 0 rfl 2 rfl;have b3 := ckC hs_ 0 rfl 3 rfl;clear hs_;first | (go_simp; done) | (go_simp; with_reducible rfl)
 (try simp only [sx]);refine tkH 2 rfl (v := ?_) (by kernel_rfl) ?_ hH ?_;rotate_left
 · intro V hs_;have a0 := ckC hs_ 1 rfl 0 rfl;have a1 := ckC hs_ 1 rfl 1 rfl;have a2 := ckC hs_ 1 rfl 2 rfl;have a3 := ckC hs_ 1 rfl 3 rfl;clear hs_;first | (go_simp; done) | (go_simp; with_reducible rfl)
 (try simp only [sx]);refine tkH 4 rfl (v := ?_) (by kernel_rfl) ?_ hH ?_;rotate_left
 · intro V hs_;have b0 := ckC hs_ 0 rfl 0 rfl;have b1 := ckC hs_ 0 rfl 1 rfl;have b2 := ckC hs_ 0 rfl 2 rfl;have b3 := ckC hs_ 0 rfl 3 rfl;clear hs_;first | (go_simp; done) | (go_simp; with_reducible rfl)
 (try simp only [sx]);refine rdH 3 rfl fun K hK => ?_;go_simp;refine (CX.out ⟨A1,c1,A2,c2,A3,c3⟩ w2).mono ?_;rintro e w3 ⟨rfl,hb⟩;have S3 := Lib.hid (S2.out.next hb);clear hb;refine hK.out _ _ (S3.out.pick [0,1] (by decide)) fun hH => ?_;clear hK K;(try simp only [sx]);refine rdH 5 rfl fun K hK => ?_;go_simp;refine (CY.out ⟨B1,d1,B2,d2,B3,d3⟩ w3).mono ?_;rintro e w4 ⟨rfl,hb⟩;have S4 := Lib.hid (S3.out.next hb);clear hb;refine hK.out _ _ (S4.out.pick [0,1] (by decide)) fun hH => ?_;clear hK K;(try simp only [sx]);refine rdH 6 rfl fun K hK => ?_;go_simp;refine (least8_any ⟨al,n,mr,ed⟩ ⟨bl,k,ms,es⟩ ⟨A1,c1,A2,c2,A3,c3⟩ ⟨B1,d1,B2,d2,B3,d3⟩ sx sy w4 HRA.out HRB.out (HA.out.below S4.out.below) (HB.out.below S4.out.below) HSX.out HSY.out HN.out).mono ?_;rintro e_ w5 ⟨AW,cW,l,f,rfl,HW,hb,HD⟩;have S5 := Lib.hid (S4.out.next hb);clear hb;refine hK.out _ _ (S5.out.pick [0,1] (by decide)) fun hH => ?_;clear hK K;(try simp only [sx]);refine tkP 7 rfl (v := ?_) hH ?_;(try simp only [sx]);refine tkP 8 rfl (v := ?_) hH ?_;(try simp only [sx]);refine tkP 9 rfl (v := ?_) hH ?_;(try simp only [sx]);refine tkP 10 rfl (v := ?_) hH ?_;(try simp only [sx]);refine tkP 11 rfl (v := ?_) hH ?_;(try simp only [sx]);refine wpAnyH_done (by kernel_rfl) ?_ _;have S9 := S5;go_wp2_with fail
 refine bodyPost_ret (v := .tuple #[.bool (!f),.slice AW l.length cW]) (by simp [results,Try.results31,go_sem]) rfl ?_;exact ⟨AW,cW,l,f,rfl,HW.out,S9.out.below,HDD.out f l HD.out.1,HD.out.2⟩

end
theorem Sm4.need {d : Sm4} (h : d.Ok) : (d.au.n.toNat + 2) * (d.au.n.toNat + 2) ≤ 1000000 := by
 have h1 := d.n_rg h;have e : d.au.n.toNat + 2 ≤ 8 := by
  show (d.n : Int).toNat + 2 ≤ 8
  omega
 exact Nat.le_trans (Nat.mul_le_mul e e) (by decide)
end Go.Proofs.Ytjjifefanjnghaa
