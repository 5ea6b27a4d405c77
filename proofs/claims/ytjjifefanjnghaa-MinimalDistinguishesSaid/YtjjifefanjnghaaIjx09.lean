/-
  What the row leans on.
-/
import Derived.Test.YtjjifefanjnghaaIjx07
import Derived.Test.YtjjifefanjnghaaBas09
import Derived.Test.YtjjifefanjnghaaIjx08
import Derived.Test.YtjjifefanjnghaaIjx06
set_option linter.unusedSimpArgs false
set_option linter.unusedVariables false
namespace Go.Proofs.Ytjjifefanjnghaa
open Go.RowKit
set_option maxRecDepth 100000
def Agree (a b : Au) (x y : Int) (w : List Int) : Prop := (0 ≤ runV a.ed x w ↔ 0 ≤ runV b.ed y w) ∧ (runV a.ed x w ∈ a.mr ↔ runV b.ed y w ∈ b.mr)
theorem Au.Right.run_out {a : Au} (h : a.Right) (w : List Int) {s : Int} (hs : s = -1 ∨ 0 ≤ s) : runV a.ed s w = -1 ∨ 0 ≤ runV a.ed s w := by
 rcases hs with rfl | hs
 · exact .inl (runV_neg _ (by decide) w)
 · exact h.run_cases w s hs
theorem next_dead {a : Au} (h : a.Right) (e : Int) : toV (stepOf a.ed) (-1) e = -1 := by
 have h2 : stp2 a a (-1,-1) e = (-1,-1) := dead2_step h h (-1,-1) e rfl;exact (Prod.mk.inj h2).1
theorem fold2 {a b : Au} (ha : a.Right) (hb : b.Right) : ∀ (w : List Int) (x y : Int),x = -1 ∨ 0 ≤ x → y = -1 ∨ 0 ≤ y → w.foldl (stp2 a b) (x,y) = (runV a.ed x w,runV b.ed y w)
 | [],x,y,_,_ => rfl
 | e :: w,x,y,hx,hy => by
   have f : ∀ c : Au,c.Right → ∀ t,t = -1 ∨ 0 ≤ t → runV c.ed (toV (stepOf c.ed) t e) w = runV c.ed t (e :: w) := fun c hc t ht => by
    rcases ht with rfl | ht
    · rw [next_dead hc e,runV_neg _ (by decide),runV_neg _ (by decide)]
    · rw [runV_cons ht,hc.next]
   have g : ∀ c : Au,c.Right → ∀ t,toV (stepOf c.ed) t e = -1 ∨ 0 ≤ toV (stepOf c.ed) t e := fun c hc t => (hc.to_cases t e).imp id And.left;rw [List.foldl_cons];show w.foldl (stp2 a b) (toV (stepOf a.ed) x e,toV (stepOf b.ed) y e) = _
   rw [fold2 ha hb w _ _ (g a ha x) (g b hb y),f a ha x hx,f b hb y hy]
theorem pd_over {a b : Au} (ha : a.Right) (hb : b.Right) : ∀ (w : List Int) (s : Int × Int),pdV a b (w.foldl (stp2 a b) s) = true → ∀ e,e ∈ w → e ∈ unionS a.al b.al
 | [],s,_,e,he => by cases he
 | x :: r,s,h,e,he => by
   rw [List.foldl_cons] at h;rcases List.mem_cons.1 he with rfl | g
   · by_cases hm : e ∈ unionS a.al b.al
     · exact hm
     · rw [stp2_out ha hb s e hm,fold_dead ha hb,pdV_dead] at h;cases h
   · exact pd_over ha hb r _ h e g
theorem pdV_agree {a b : Au} (ha : a.Right) (hb : b.Right) {r s : Int} (hr : r = -1 ∨ 0 ≤ r) (hs : s = -1 ∨ 0 ≤ s) : pdV a b (r,s) = true ↔ ¬ ((0 ≤ r ↔ 0 ≤ s) ∧ (r ∈ a.mr ↔ s ∈ b.mr)) := by
 have m : ∀ c : Au,c.Right → ¬ (-1 : Int) ∈ c.mr := fun c hc h => by have := hc.mem h; omega
 have ma := m a ha;have mb := m b hb;unfold pdV
 rcases hr with rfl | hr <;> rcases hs with rfl | hs
 · simp [ma,mb]
 · have e : ¬ (((-1 : Int),s) = (-1,-1)) := fun h => by have := (Prod.mk.inj h).2; omega
   rw [if_neg e];simp only [decide_true,Bool.true_or,true_iff];exact fun h => by have := h.1.2 hs; omega
 · have e : ¬ ((r,(-1 : Int)) = (-1,-1)) := fun h => by have := (Prod.mk.inj h).1; omega
   rw [if_neg e];simp only [decide_true,Bool.or_true,Bool.true_or,true_iff];exact fun h => by have := h.1.1 hr; omega
 · have e : ¬ ((r,s) = (-1,-1)) := fun h => by have := (Prod.mk.inj h).1; omega
   rw [if_neg e];have e1 : decide (r = -1) = false := decide_eq_false (by omega);have e2 : decide (s = -1) = false := decide_eq_false (by omega);simp only [e1,e2,Bool.false_or];by_cases h1 : r ∈ a.mr <;> by_cases h2 : s ∈ b.mr <;> simp [h1,h2,hr,hs]
theorem leads_tell {a b : Au} (ha : a.Right) (hb : b.Right) {x y : Int} (hx : x = -1 ∨ 0 ≤ x) (hy : y = -1 ∨ 0 ≤ y) (w : List Int) : LeadsTo (stp2 a b) (x,y) (unionS a.al b.al) (fun q => pdV a b q = true) w ↔ ¬ Agree a b x y w := by
 have h := pdV_agree ha hb (ha.run_out w hx) (hb.run_out w hy);have h2 := fold2 ha hb w x y hx hy;constructor
 · rintro ⟨_,h1⟩;have h1 : pdV a b (w.foldl (stp2 a b) (x,y)) = true := h1;rw [h2] at h1;exact h.1 h1
 · intro h1;have h3 : pdV a b (w.foldl (stp2 a b) (x,y)) = true := by rw [h2]; exact h.2 h1
   exact ⟨pd_over ha hb w _ h3,h3⟩
theorem DistW.cases {a b : Au} (ha : a.Right) (hb : b.Right) {x y : Int} (hx : x = -1 ∨ 0 ≤ x) (hy : y = -1 ∨ 0 ≤ y) {f : Bool} {l : List Int} (h : DistW a b x y f l) : f = true ∧ LeastW (fun w => ¬ Agree a b x y w) l ∨ f = false ∧ l = [] ∧ ∀ u,Agree a b x y u := by
 rcases h with ⟨h1,h2⟩ | ⟨h1,h2,h3⟩
 · exact .inl ⟨h1,h2.congr (fun w => leads_tell ha hb hx hy w)⟩
 · exact .inr ⟨h1,h2,fun u => Classical.byContradiction fun g => h3 u ((leads_tell ha hb hx hy u).2 g)⟩
theorem DistW.short {a : Au} (ha : a.Right) {x y : Int} (hx : 0 ≤ x ∧ x < a.n) (hy : 0 ≤ y ∧ y < a.n) {f : Bool} {l : List Int} (h : DistW a a x y f l) : (l.length : Int) < a.n := by
 rcases h.cases ha ha (.inr hx.1) (.inr hy.1) with ⟨_,h⟩ | ⟨_,rfl,_⟩
 · refine Classical.byContradiction fun hl => h.is ?_;have hE : Eqv a x y := Eqv.of_bound ha hx.1 hx.2 hy.1 hy.2 fun w hw => Classical.byContradiction fun hn => by
    have : l.length ≤ w.length := by
     rcases h.le w hn with (h | h) | h
     · omega
     · omega
     · rw [h]; exact Nat.le_refl _
    omega
   exact hE l
 · simp; omega
theorem Sm4.need {d : Sm4} (h : d.Ok) : (d.au.n.toNat + 2) * (d.au.n.toNat + 2) ≤ 1000000 := by
 have h1 := d.n_rg h;have e : d.au.n.toNat + 2 ≤ 8 := by
  show (d.n : Int).toNat + 2 ≤ 8
  omega
 exact Nat.le_trans (Nat.mul_le_mul e e) (by decide)
set_option maxHeartbeats 8000000 in
theorem lawDist_c (d : Sm4) (x y : Int) (w : World) (hd : d.Ok) (hx : 0 ≤ x ∧ x < 256) (hy : 0 ≤ y ∧ y < 256) :
 Calls Try.prog 4 #[.agg d.cells.toArray,.int .u8 x,.int .u8 y] w (Ret (.bool true) w) := by
 have HD := Lib.hid hd;have HR := Lib.hid (Sm4.right hd);have HL := Lib.hid (Sm4.lens hd);have HNE := Lib.hid (Sm4.need hd);obtain ⟨hn1,hn6⟩ := Sm4.n_rg hd;obtain ⟨x0,x1⟩ := hx;obtain ⟨y0,y1⟩ := hy;clear hd;obtain ⟨N,hN⟩ : ∃ N : Int,d.au.n = N := ⟨_,rfl⟩;have hN1 : 1 ≤ N ∧ N ≤ 6 := by have : d.au.n = (d.n : Int) := rfl; omega
 have hN0 : (N == 0) = false := by simp; omega
 have HN := Lib.hid hN;clear hn1 hn6;obtain ⟨X,hX⟩ : ∃ X,x % N = X := ⟨_,rfl⟩;obtain ⟨Y,hY⟩ : ∃ Y,y % N = Y := ⟨_,rfl⟩;have tX : x.tmod N = X := by rw [Int.tmod_eq_emod_of_nonneg x0]; exact hX
 have tY : y.tmod N = Y := by rw [Int.tmod_eq_emod_of_nonneg y0]; exact hY
 have bX : 0 ≤ X ∧ X < N := by rw [← hX]; exact ⟨Int.emod_nonneg _ (by omega),Int.emod_lt_of_pos _ (by omega)⟩
 have bY : 0 ≤ Y ∧ Y < N := by rw [← hY]; exact ⟨Int.emod_nonneg _ (by omega),Int.emod_lt_of_pos _ (by omega)⟩
 have wx : IntKind.i64.wrap x = x := IntWalk.i64_in _ (by omega);have wy : IntKind.i64.wrap y = y := IntWalk.i64_in _ (by omega);have wX : IntKind.i64.wrap X = X := IntWalk.i64_in _ (by omega);have wY : IntKind.i64.wrap Y = Y := IntWalk.i64_in _ (by omega);have HIS : Hid (InSt d.au X Y) := by rw [Hid,InSt,hN]; exact ⟨bX,bY⟩
 clear hX hY hN;go_enter Try.func4,Try.ntmps4
 generalize hcs : d.cells = cs;go_upto_region 1 with fail
 refine wp_world (fun W => Sep w.heap.size w [eBlk w.heap.size 46 cs] W) ?_ fun W S => ?_
 · exact (Sep.here w).alloc' _ cs rfl rfl
 rw [← hcs] at S;have SA := Lib.hid S;clear S hcs;go_wp2_with fail
 refine (knownM_c W).mono ?_;rintro e w1 ⟨rfl,hb⟩;have SB := Lib.hid (SA.out.next hb);clear hb SA;go_wp2_with (refine wpList_load_mid rfl 46 (.tmp 3) rfl w.heap.size 0 rfl d.cells _ (BlkAt.rng (SB.out.get 0 rfl) (fun j v hv => by rw [Nat.zero_add]; exact hv)) Try.underlying46 rfl (Sm4.info HD.out) ?_)
 refine (make4_c d w1 HD.out).mono ?_;rintro e v2 ⟨⟨A1,a1,A2,a2,A3,a3⟩,rfl,TT⟩;have T2 := ckN SB.out TT.out;clear TT SB;dsimp only [Au.val];obtain ⟨ta,ht⟩ : ∃ g,g = v2.heap.size := ⟨_,rfl⟩;go_upto_region 4 with fail
 rw [← ht];refine wp_world (fun V => Sep w.heap.size w [eBlk ta 25 [.slice A1 d.au.al.length a1,.int .i64 d.au.n,.slice A2 d.au.mr.length a2,.slice A3 d.au.ed.length a3],eInts d.au.al (.slice A1 d.au.al.length a1),eInts d.au.mr (.slice A2 d.au.mr.length a2),eEds d.au.ed (.slice A3 d.au.ed.length a3),eBlk w.heap.size 46 d.cells] V) (T2.out.alloc' _ [_,_,_,_] rfl ht) fun W2 S' => ?_;have S2 : (SepW w [eBox ta d.au ⟨A1,a1,A2,a2,A3,a3⟩,eBlk w.heap.size 46 d.cells] W2) := S'.box;clear S' T2 ht;have la0 := BlkAt.cell (S2.out.get 0 rfl).1 0;have la1 := BlkAt.cell (S2.out.get 0 rfl).1 1;have la2 := BlkAt.cell (S2.out.get 0 rfl).1 2;have la3 := BlkAt.cell (S2.out.get 0 rfl).1 3;simp only [List.getElem?_cons_succ,List.getElem?_cons_zero] at la0 la1 la2 la3;rw [HN.out] at la1;go_cut [8,9] (fun p q wx => p = .int .i64 X ∧ q = .int .i64 Y ∧ (SepW w [eBox ta d.au ⟨A1,a1,A2,a2,A3,a3⟩,eBlk w.heap.size 46 d.cells] wx))
 case first =>
  go_quiet (fail)
  go_wp2_with fail
  go_meet
  exact ⟨rfl,rfl,S2.out.draws _⟩
 case rest =>
  obtain ⟨rfl,rfl,S3⟩ := hcut;clear S2 la0 la1 la2 la3;have la0 := BlkAt.cell (S3.out.get 0 rfl).1 0;have la1 := BlkAt.cell (S3.out.get 0 rfl).1 1;have la2 := BlkAt.cell (S3.out.get 0 rfl).1 2;have la3 := BlkAt.cell (S3.out.get 0 rfl).1 3;simp only [List.getElem?_cons_succ,List.getElem?_cons_zero] at la0 la1 la2 la3;go_wp2_with fail
  refine (distX_c d.au ⟨A1,a1,A2,a2,A3,a3⟩ X Y wc (fun _ => eBox.caps (S3.out.get 0 rfl)) (fun _ => HNE.out) (eBox.at (S3.out.get 0 rfl) HL.out)).mono ?_;rintro e v4 ⟨AW,cW,l,f,r,rfl,HW,hb,HF⟩;obtain ⟨rfl,hdw⟩ := DistW.of HR.out HIS.out HF.out;have HDW := Lib.hid hdw;have S4 := Lib.hid (S3.out.next hb);clear HF hdw hb S3 la0 la1 la2 la3;have la0 := BlkAt.cell (S4.out.get 0 rfl).1 0;have la1 := BlkAt.cell (S4.out.get 0 rfl).1 1;have la2 := BlkAt.cell (S4.out.get 0 rfl).1 2;have la3 := BlkAt.cell (S4.out.get 0 rfl).1 3;simp only [List.getElem?_cons_succ,List.getElem?_cons_zero] at la0 la1 la2 la3;go_wp2_with fail
  refine (least8_c d.au d.au ⟨A1,a1,A2,a2,A3,a3⟩ ⟨A1,a1,A2,a2,A3,a3⟩ X Y v4 HR.out HR.out (eBox.at (S4.out.get 0 rfl) HL.out) (eBox.at (S4.out.get 0 rfl) HL.out) (by rw [HN.out]; omega) (by rw [HN.out]; omega) (fun h => by have := (Prod.mk.inj h).1; omega) HNE.out).mono ?_;rintro e v5 ⟨AM,cM,m,g,rfl,HM,hb,HG⟩;obtain ⟨rfl,rfl⟩ := HDW.out.uniq HG.out;have HW2 := Lib.hid (HW.out.below IntE.stays hb);have S5 := Lib.hid (S4.out.next hb);have hsh : (l.length : Int) < d.au.n := DistW.short HR.out HIS.out.1 HIS.out.2 HDW.out;have hnn : d.au.n = N := HN.out;have hl6 : l.length ≤ 140737488355328 := by omega
  clear hnn;clear HG HW hb S4 la0 la1 la2 la3;have hff : (f == f) = true := by cases f <;> rfl
  have hsh' : decide ((l.length : Int) < d.au.n) = true := decide_eq_true hsh;go_wp2_with fail
  refine (same8_c AW AM cW cM l l v5 HW2.out HM.out hl6 hl6).mono ?_;intro e v6 hs;obtain ⟨rfl,hb⟩ := hs.yes2 rfl;have S6 := Lib.hid (S5.out.next hb);clear hb S5;have la0 := BlkAt.cell (S6.out.get 0 rfl).1 0;have la1 := BlkAt.cell (S6.out.get 0 rfl).1 1;have la2 := BlkAt.cell (S6.out.get 0 rfl).1 2;have la3 := BlkAt.cell (S6.out.get 0 rfl).1 3;simp only [List.getElem?_cons_succ,List.getElem?_cons_zero] at la0 la1 la2 la3;go_wp2_with fail
  go_ret
  exact ⟨rfl,S6.out.below⟩
end Go.Proofs.Ytjjifefanjnghaa
