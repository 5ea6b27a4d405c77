/-
  What the row leans on.
-/
import Derived.Test.YtkifgffhoenaoaaGreatDoorQqx01
import Derived.Test.YtkifgffhoenaoaaGreatDoorBas13
import Derived.Test.YtkifgffhoenaoaaGreatDoorBas18
import Derived.Test.YtkifgffhoenaoaaGreatDoorBas04
import Derived.Test.YtkifgffhoenaoaaGreatDoorBas03
set_option linter.unusedSimpArgs false
set_option linter.unusedVariables false
namespace Go.Proofs.YtkifgffhoenaoaaGreatDoor
open Go.RowKit
set_option maxRecDepth 100000
abbrev preL (a : Au) : List Int → Prop := Liv (fun u => rn a u ∈ a.mr)
theorem trim_pre {a t : Au} (h : Trimd a t) (w : List Int) : 0 ≤ rn t w ↔ preL a w := by
 constructor
 · intro h0;have hlt : rn t w < t.n := by
    rcases h.rt.rn_cases w with g | g
    · omega
    · exact g.2
   obtain ⟨v,hv⟩ := h.co _ h0 hlt;refine ⟨v,(h.lang _).1 ?_⟩;rw [rn_app]; exact hv
 · rintro ⟨v,hv⟩;have h1 := (h.lang _).2 hv;have h2 := (h.rt.mem h1).1;rcases h.rt.rn_cases w with g | g
   · rw [rn_app,g,runV_neg _ (by decide)] at h2; omega
   · exact g.1
theorem closd_min {a t c m : Au} (ht : Trimd a t) (hc : Closd t c) (hm : Mini c m) : IsMin m (preL a) ∧ m.al = a.al := by
 have hmk : ∀ w,rn c w ∈ c.mr ↔ 0 ≤ rn c w := fun w => by
  rw [hc.mks];constructor
  · exact fun h => h.1
  · intro h;rcases hc.rt.rn_cases w with g | g
    · omega
    · exact ⟨g.1,g.2⟩
 have T : Trimd c c := ⟨rfl,hc.rt,hc.num,fun i h0 h1 => ⟨[],(hc.mks i).2 ⟨h0,h1⟩⟩,fun w => Iff.rfl⟩;refine ⟨(Mini.isMin T hm).congr fun w => ?_,by rw [hm.al,hc.al,ht.al]⟩;rw [hmk,hc.gen,trim_pre ht]
def GivesPre (a : Au) (w : World) (e : Ending) (w' : World) : Prop := ∃ m p',e = .returned (.tuple #[m.val p',.int .i64 0]) ∧ (SepW w (eAu m p') w') ∧ Hid (Lens m) ∧ IsMin m (preL a) ∧ m.al = a.al
set_option maxHeartbeats 4000000 in
theorem closure_c (a : Au) (p : AuP) (w : World) (hr : a.Right) (hc : Caps a p) (hA : Au.At w a p) :
 Calls Tryz.prog 9 #[a.val p] w (GivesPre a w) := by
 have HR := Lib.hid hr;have HA := Lib.hid hA;have HC := Lib.hid hc;obtain ⟨A1,a1,A2,a2,A3,a3⟩ := p;(try dsimp only [Au.val] at *);clear hr hA hc;go_enter Tryz.func9,Tryz.ntmps9
 go_upto_region 1 with fail
 refine wp_world (fun W => Sep w.heap.size w [eBlk (w.heap.size + 1) 31 [.slice none 0 0,.int .i64 0,.slice none 0 0,.slice none 0 0],eBlk w.heap.size 31 [.slice A1 a.al.length a1,.int .i64 a.n,.slice A2 a.mr.length a2,.slice A3 a.ed.length a3]] W) ?_ fun W S => ?_
 · exact ((Sep.here w).alloc' _ [_,_,_,_] rfl rfl).alloc' _ [_,_,_,_] (g := w.heap.size + 1) rfl (by simp)
 have S0 := Lib.hid S;clear S;have x0 := ckC S0.out 1 rfl 0 rfl;have x1 := ckC S0.out 1 rfl 1 rfl;have x2 := ckC S0.out 1 rfl 2 rfl;have x3 := ckC S0.out 1 rfl 3 rfl;go_wp2_with fail
 refine (trim_c a ⟨A1,a1,A2,a2,A3,a3⟩ W HR.out HC.out (HA.out.below S0.out.below)).mono ?_;rintro e w1 ⟨t,⟨T1,t1,T2,t2,T3,t3⟩,rfl,TT,LT,FT⟩;have S1 := ckN S0.out TT.out;clear TT S0 x0 x1 x2 x3;dsimp only [Au.val];obtain ⟨tb,htb⟩ : ∃ g,g = w1.heap.size := ⟨_,rfl⟩;go_upto_region 4 with fail
 rw [← htb];refine wp_world (fun V => Sep w.heap.size w [eBlk tb 31 [.slice T1 t.al.length t1,.int .i64 t.n,.slice T2 t.mr.length t2,.slice T3 t.ed.length t3],eInts t.al (.slice T1 t.al.length t1),eInts t.mr (.slice T2 t.mr.length t2),eEds t.ed (.slice T3 t.ed.length t3),eBlk (w.heap.size + 1) 31 [.slice none 0 0,.int .i64 0,.slice none 0 0,.slice none 0 0],eBlk w.heap.size 31 [.slice A1 a.al.length a1,.int .i64 a.n,.slice A2 a.mr.length a2,.slice A3 a.ed.length a3]] V) (S1.out.alloc' _ [_,_,_,_] rfl htb) fun W2 S' => ?_;have S2 := Lib.hid S';clear S' S1 htb;have x0 := ckC S2.out 0 rfl 0 rfl;have x1 := ckC S2.out 0 rfl 1 rfl;have x2 := ckC S2.out 0 rfl 2 rfl;have x3 := ckC S2.out 0 rfl 3 rfl;have AT1 : Hid (Au.At W2 t ⟨T1,t1,T2,t2,T3,t3⟩) := Sep.au (es := [eBlk (w.heap.size + 1) 31 [.slice none 0 0,.int .i64 0,.slice none 0 0,.slice none 0 0],eBlk w.heap.size 31 [.slice A1 a.al.length a1,.int .i64 a.n,.slice A2 a.mr.length a2,.slice A3 a.ed.length a3]]) S2.out.drop1 LT.out;have CP1 : Hid (Caps t ⟨T1,t1,T2,t2,T3,t3⟩) := Sep.auCaps (es := [eBlk (w.heap.size + 1) 31 [.slice none 0 0,.int .i64 0,.slice none 0 0,.slice none 0 0],eBlk w.heap.size 31 [.slice A1 a.al.length a1,.int .i64 a.n,.slice A2 a.mr.length a2,.slice A3 a.ed.length a3]]) S2.out.drop1;go_wp2_with fail
 refine (closed_c t ⟨T1,t1,T2,t2,T3,t3⟩ W2 FT.out.rt CP1.out AT1.out).mono ?_;rintro e w3 ⟨c,⟨C1,c1,C2,c2,C3,c3⟩,rfl,TT,LC,fc⟩;have FC := Lib.hid fc;have S3 := ckN S2.out TT.out;clear TT S2 fc AT1 CP1 x0 x1 x2 x3;dsimp only [Au.val];obtain ⟨cb,hcb⟩ : ∃ g,g = w3.heap.size := ⟨_,rfl⟩;go_upto_region 7 with fail
 rw [← hcb];refine wp_world (fun V => Sep w.heap.size w [eBlk cb 31 [.slice C1 c.al.length c1,.int .i64 c.n,.slice C2 c.mr.length c2,.slice C3 c.ed.length c3],eInts c.al (.slice C1 c.al.length c1),eInts c.mr (.slice C2 c.mr.length c2),eEds c.ed (.slice C3 c.ed.length c3),eBlk tb 31 [.slice T1 t.al.length t1,.int .i64 t.n,.slice T2 t.mr.length t2,.slice T3 t.ed.length t3],eInts t.al (.slice T1 t.al.length t1),eInts t.mr (.slice T2 t.mr.length t2),eEds t.ed (.slice T3 t.ed.length t3),eBlk (w.heap.size + 1) 31 [.slice none 0 0,.int .i64 0,.slice none 0 0,.slice none 0 0],eBlk w.heap.size 31 [.slice A1 a.al.length a1,.int .i64 a.n,.slice A2 a.mr.length a2,.slice A3 a.ed.length a3]] V) (S3.out.alloc' _ [_,_,_,_] rfl hcb) fun W4 S' => ?_;have S4 := Lib.hid S';clear S' S3 hcb;have x0 := ckC S4.out 0 rfl 0 rfl;have x1 := ckC S4.out 0 rfl 1 rfl;have x2 := ckC S4.out 0 rfl 2 rfl;have x3 := ckC S4.out 0 rfl 3 rfl;have AT2 : Hid (Au.At W4 c ⟨C1,c1,C2,c2,C3,c3⟩) := Sep.au (es := [eBlk tb 31 [.slice T1 t.al.length t1,.int .i64 t.n,.slice T2 t.mr.length t2,.slice T3 t.ed.length t3],eInts t.al (.slice T1 t.al.length t1),eInts t.mr (.slice T2 t.mr.length t2),eEds t.ed (.slice T3 t.ed.length t3),eBlk (w.heap.size + 1) 31 [.slice none 0 0,.int .i64 0,.slice none 0 0,.slice none 0 0],eBlk w.heap.size 31 [.slice A1 a.al.length a1,.int .i64 a.n,.slice A2 a.mr.length a2,.slice A3 a.ed.length a3]]) S4.out.drop1 LC.out
 have CP2 : Hid (Caps c ⟨C1,c1,C2,c2,C3,c3⟩) := Sep.auCaps (es := [eBlk tb 31 [.slice T1 t.al.length t1,.int .i64 t.n,.slice T2 t.mr.length t2,.slice T3 t.ed.length t3],eInts t.al (.slice T1 t.al.length t1),eInts t.mr (.slice T2 t.mr.length t2),eEds t.ed (.slice T3 t.ed.length t3),eBlk (w.heap.size + 1) 31 [.slice none 0 0,.int .i64 0,.slice none 0 0,.slice none 0 0],eBlk w.heap.size 31 [.slice A1 a.al.length a1,.int .i64 a.n,.slice A2 a.mr.length a2,.slice A3 a.ed.length a3]]) S4.out.drop1;go_wp2_with fail
 refine (minimize_c c ⟨C1,c1,C2,c2,C3,c3⟩ W4 FC.out.rt CP2.out AT2.out).mono ?_;rintro e w5 ⟨m,⟨M1,m1,M2,m2,M3,m3⟩,rfl,TT,LM,FM⟩;have S5 := ckN S4.out TT.out;clear TT S4 AT2 CP2 x0 x1 x2 x3;dsimp only [Au.val];have r0 := ckC S5.out 11 rfl 0 rfl;have r1 := ckC S5.out 11 rfl 1 rfl;have r2 := ckC S5.out 11 rfl 2 rfl;have r3 := ckC S5.out 11 rfl 3 rfl;have rf0 := BlkAt.free (S5.out.get 11 rfl) 0;have rf1 := BlkAt.free (S5.out.get 11 rfl) 1;have rf2 := BlkAt.free (S5.out.get 11 rfl) 2;have rf3 := BlkAt.free (S5.out.get 11 rfl) 3;have SF := Lib.hid ((((S5.out.set 11 rfl 0 (.slice M1 m.al.length m1)).set 11 rfl 1 (.int .i64 m.n)).set 11 rfl 2 (.slice M2 m.mr.length m2)).set 11 rfl 3 (.slice M3 m.ed.length m3));have z0 := BlkAt.cell (SF.out.get 11 rfl) 0;have z1 := BlkAt.cell (SF.out.get 11 rfl) 1;have z2 := BlkAt.cell (SF.out.get 11 rfl) 2;have z3 := BlkAt.cell (SF.out.get 11 rfl) 3;simp only [List.set_cons_succ,List.set_cons_zero,List.getElem?_cons_succ,List.getElem?_cons_zero] at z0 z1 z2 z3;go_wp2_with fail
 refine bodyPost_ret (v := .tuple #[.agg #[.slice M1 m.al.length m1,.int .i64 m.n,.slice M2 m.mr.length m2,.slice M3 m.ed.length m3],.int .i64 0]) (by simp [results,Tryz.results9,go_sem, *]) rfl ?_;exact ⟨m,⟨M1,m1,M2,m2,M3,m3⟩,rfl,SF.out.pick [0,1,2] (by decide),LM.out,closd_min FT.out FC.out FM.out⟩
theorem fold2 {a b : Au} (ha : a.Right) (hb : b.Right) : ∀ w : List Int,w.foldl (stp2 a b) (a.st,b.st) = (rn a w,rn b w) := by
 refine snoc_ind rfl (fun w e ih => ?_);rw [List.foldl_append,ih];show (toV (stepOf a.ed) (rn a w) e,toV (stepOf b.ed) (rn b w) e) = _
 rw [rn_to ha,rn_to hb]
theorem leads2 {a b : Au} (ha : a.Right) (hb : b.Right) (evs : List Int) (P : Int × Int → Prop) (w : List Int) : LeadsTo (stp2 a b) (a.st,b.st) evs P w ↔ (∀ e,e ∈ w → e ∈ evs) ∧ P (rn a w,rn b w) := by
 unfold LeadsTo; rw [fold2 ha hb]
theorem union_nil {l : List Int} (h : incr l) : unionV l [] = l :=
 Rises.ext (R := fun x y : Int => x < y) (fun x h => by omega) (fun x y h k => by omega) (rises_unionV _ l [] (Nat.le_refl _) h.rises (fun i j x y _ hx => by simp at hx)) h.rises (fun w => by rw [mem_unionV _ _ _ (Nat.le_refl _)]; simp)
theorem pairs_le {a b : Au} (ha : a.Right) (hb : b.Right) (fs : List (Int × Int)) (hn : fs.Nodup) (rg : ∀ v,v ∈ fs → (v.1 = -1 ∨ 0 ≤ v.1 ∧ v.1 < a.n) ∧ (v.2 = -1 ∨ 0 ≤ v.2 ∧ v.2 < b.n)) : fs.length ≤ (a.n.toNat + 1) * (b.n.toNat + 1) := by
 have := sub_len (fs.map fun v => (v.1 + 1).toNat * (b.n.toNat + 1) + (v.2 + 1).toNat) (List.range ((a.n.toNat + 1) * (b.n.toNat + 1))) (by
  rw [List.nodup_iff_pairwise_ne,List.pairwise_map];refine List.Pairwise.imp_of_mem ?_ (List.nodup_iff_pairwise_ne.1 hn);intro x y hx hy hxy he;have h1 := rg x hx;have h2 := rg y hy;have b1 : (x.2 + 1).toNat < b.n.toNat + 1 := by rcases h1.2 with g | g <;> omega
  have b2 : (y.2 + 1).toNat < b.n.toNat + 1 := by rcases h2.2 with g | g <;> omega
  have e1 : (x.1 + 1).toNat = (y.1 + 1).toNat := by
   have := congrArg (· / (b.n.toNat + 1)) he;simp only [Nat.mul_comm _ (b.n.toNat + 1)] at this;rw [Nat.mul_add_div (by omega),Nat.mul_add_div (by omega),Nat.div_eq_of_lt b1,Nat.div_eq_of_lt b2] at this;omega
  rw [e1] at he;have e2 : (x.2 + 1).toNat = (y.2 + 1).toNat := by omega
  apply hxy
  have c1 : x.1 = y.1 := by rcases h1.1 with g | g <;> rcases h2.1 with k | k <;> omega
  have c2 : x.2 = y.2 := by rcases h1.2 with g | g <;> rcases h2.2 with k | k <;> omega
  exact Prod.ext c1 c2) (fun q hq => by
  obtain ⟨v,hv,rfl⟩ := List.mem_map.1 hq;have h1 := rg v hv;have b1 : (v.1 + 1).toNat ≤ a.n.toNat := by rcases h1.1 with g | g <;> omega
  have b2 : (v.2 + 1).toNat < b.n.toNat + 1 := by rcases h1.2 with g | g <;> omega
  rw [List.mem_range,Nat.add_mul,Nat.one_mul];have := Nat.mul_le_mul_right (b.n.toNat + 1) b1;omega)
 rw [List.length_map,List.length_range] at this;exact this
theorem rn_rg {a : Au} (ha : a.Right) (w : List Int) : rn a w = -1 ∨ 0 ≤ rn a w ∧ rn a w < a.n := ha.rn_cases w
theorem IsMin.size {m a b : Au} {ch : Bool → Bool → Bool} (ha : a.Right) (hb : b.Right) (h : IsMin m (CoL a b ch)) : m.n.toNat ≤ (a.n.toNat + 1) * (b.n.toNat + 1) := by
 obtain ⟨ws,hl,_,hw⟩ := h.ws;have key : ∀ (i : Nat),i < m.n.toNat → ∃ w,ws[i]? = some w ∧ rn m w = (i : Int) := fun i hi => by
  obtain ⟨w,hw'⟩ : ∃ w,ws[i]? = some w := ⟨_,List.getElem?_eq_getElem (by omega)⟩;exact ⟨w,hw',(hw i w hw').is⟩
 have := pairs_le ha hb (ws.map fun w => (rn a w,rn b w)) (by
  rw [List.nodup_iff_pairwise_ne,List.pairwise_map,List.pairwise_iff_getElem];intro i j hi hj hij he;have hi' := List.getElem?_eq_getElem hi;have hj' := List.getElem?_eq_getElem hj;have ri := (hw i _ hi').is;have rj := (hw j _ hj').is;obtain ⟨e1,e2⟩ := Prod.mk.inj he;have lu := (h.liv ws[i]).1 (by rw [ri]; omega);have lv := (h.liv ws[j]).1 (by rw [rj]; omega);have over : ∀ w,Liv (CoL a b ch) w → ∀ x,x ∈ w → x ∈ unionV a.al b.al := fun w ⟨v,hv⟩ x hx => hv.1 x (List.mem_append_left _ hx);have ou := over _ lu;have ov := over _ lv;have al : Alik (CoL a b ch) ws[i] ws[j] := fun x => by
   unfold CoL
   rw [rn_app,rn_app,rn_app,rn_app,e1,e2];refine and_congr_left fun _ => ⟨fun g y hy => ?_,fun g y hy => ?_⟩
   · rcases List.mem_append.1 hy with k | k
     · exact ov y k
     · exact g y (List.mem_append_right _ k)
   · rcases List.mem_append.1 hy with k | k
     · exact ou y k
     · exact g y (List.mem_append_right _ k)
  have := (h.alik (by rw [ri]; omega) (by rw [rj]; omega)).2 al;rw [ri,rj] at this;omega) (fun v hv => by
  obtain ⟨w,_,rfl⟩ := List.mem_map.1 hv;exact ⟨rn_rg ha w,rn_rg hb w⟩)
 rw [List.length_map,hl] at this;exact this
theorem CoL.comp {a : Au} (hi : incr a.al) (w : List Int) : CoL a Au.zero (fun x _ => !x) w ↔ (∀ x,x ∈ w → x ∈ a.al) ∧ ¬ rn a w ∈ a.mr := by
 unfold CoL
 rw [show Au.zero.al = [] from rfl,union_nil hi];simp
section

structure Pr where
 x : Int
 y : Int
 w : List Int
def Pr.pr (p : Pr) : Int × Int := (p.x,p.y)

theorem Bfs.short {α : Type} {stp : α → Int → α} {s0 : α} {dead : α → Prop} {evs : List Int} {i k : Nat} {vs : List α} {ws : List (List Int)} (h : Bfs stp s0 dead evs i k vs ws) : ∀ (j : Nat) (w : List Int),ws[j]? = some w → w.length ≤ j := by
 intro j;induction j using Nat.strongRecOn with
 | ind j ih =>
   intro w hw;by_cases h0 : j = 0
   · subst h0; rw [h.zw] at hw; cases hw; simp
   · obtain ⟨b,u,e,_,hb,hu,rfl⟩ := h.pre j w (by omega) hw;have := ih b hb u hu;simp; omega

structure PBfs (a b : Au) (evs : List Int) (i k : Nat) (l : List Pr) : Prop where
 bf : Bfs (stp2 a b) (a.st,b.st) (fun s => s = (-1,-1)) evs i k (l.map Pr.pr) (l.map Pr.w)
 nd : (l.map Pr.pr).Nodup
 rg : ∀ v,v ∈ l.map Pr.pr → rgP a b v
 lv : ∀ v,v ∈ l.map Pr.pr → v ≠ (-1,-1)
section
variable {a b : Au} {evs : List Int} {i k : Nat} {l : List Pr}
theorem PBfs.start (ha : a.Right) (hb : b.Right) (hn : ¬ (a.n = 0 ∧ b.n = 0)) : PBfs a b evs 0 0 [⟨a.st,b.st,[]⟩] := by
 refine ⟨Bfs.start,by simp,fun v hv => ?_,fun v hv => ?_⟩
 · simp only [List.map_cons,List.map_nil,List.mem_singleton] at hv;subst hv;exact rgP_start ha hb
 · simp only [List.map_cons,List.map_nil,List.mem_singleton] at hv;subst hv;intro h;obtain ⟨h1,h2⟩ := Prod.mk.inj h;have e : ∀ c : Au,c.st = -1 → c.n = 0 := fun c hc => by
    unfold Au.st at hc
    split at hc
    · assumption
    · omega
   exact hn ⟨e a h1,e b h2⟩
theorem PBfs.len (ha : a.Right) (hb : b.Right) (h : PBfs a b evs i k l) : l.length ≤ (a.n.toNat + 1) * (b.n.toNat + 1) := by
 have := pairs_le ha hb (l.map Pr.pr) h.nd h.rg;rwa [List.length_map] at this
theorem PBfs.word (h : PBfs a b evs i k l) {j : Nat} {p : Pr} (hp : l[j]? = some p) : p.w.length ≤ j := h.bf.short j p.w (by rw [List.getElem?_map,hp]; rfl)
theorem PBfs.skip (hinc : incr evs) (h : PBfs a b evs i k l) {p : Pr} {e : Int} (hv : l[i]? = some p) (he : evs[k]? = some e) (hs : stp2 a b p.pr e = (-1,-1) ∨ stp2 a b p.pr e ∈ l.map Pr.pr) : PBfs a b evs i (k + 1) l :=
 ⟨h.bf.skip hinc (show (l.map Pr.pr)[i]? = some p.pr by rw [List.getElem?_map,hv]; rfl) he (hs.imp id fun hm => by
  obtain ⟨j,hj,e'⟩ := List.mem_iff_getElem.1 hm;exact ⟨j,by rw [List.getElem?_eq_getElem hj,e']⟩),h.nd,h.rg,h.lv⟩
theorem PBfs.push (ha : a.Right) (hb : b.Right) (hinc : incr evs) (h : PBfs a b evs i k l) {p : Pr} {e : Int} (hv : l[i]? = some p) (he : evs[k]? = some e) (h1 : ¬ stp2 a b p.pr e = (-1,-1)) (h2 : ¬ stp2 a b p.pr e ∈ l.map Pr.pr) : PBfs a b evs i (k + 1) (l ++ [⟨(stp2 a b p.pr e).1,(stp2 a b p.pr e).2,p.w ++ [e]⟩]) := by
 have hpr : Pr.pr ⟨(stp2 a b p.pr e).1,(stp2 a b p.pr e).2,p.w ++ [e]⟩ = stp2 a b p.pr e := rfl;refine ⟨?_,?_,fun v hv' => ?_,fun v hv' => ?_⟩
 · rw [List.map_append,List.map_append];exact h.bf.push hinc (show (l.map Pr.pr)[i]? = some p.pr by rw [List.getElem?_map,hv]; rfl) he (show (l.map Pr.w)[i]? = some p.w by rw [List.getElem?_map,hv]; rfl)
 · rw [List.map_append,List.nodup_append];exact ⟨h.nd,by simp,fun x hx y hy => by
    simp only [List.map_cons,List.map_nil,List.mem_singleton] at hy;subst hy;rintro rfl;exact h2 hx⟩
 · rw [List.map_append] at hv';rcases List.mem_append.1 hv' with g | g
   · exact h.rg v g
   · simp only [List.map_cons,List.map_nil,List.mem_singleton] at g;subst g;exact rgP_step ha hb _ _
 · rw [List.map_append] at hv';rcases List.mem_append.1 hv' with g | g
   · exact h.lv v g
   · simp only [List.map_cons,List.map_nil,List.mem_singleton] at g;subst g;exact h1
theorem PBfs.next (h : PBfs a b evs i evs.length l) : PBfs a b evs (i + 1) 0 l := ⟨h.bf.next,h.nd,h.rg,h.lv⟩
end
def PAll (a b : Au) (evs : List Int) (l : List Pr) : Prop := (a.n = 0 ∧ b.n = 0 ∧ l = []) ∨ PBfs a b evs l.length 0 l
theorem stp2_dead {a b : Au} (ha : a.Right) (hb : b.Right) (s : Int × Int) (e : Int) (h : s = (-1,-1)) : stp2 a b s e = (-1,-1) := by
 subst h;simp only [stp2,ha.to_neg,hb.to_neg]
theorem PAll.least {a b : Au} (ha : a.Right) (hb : b.Right) {evs : List Int} {l : List Pr} (h : PAll a b evs l) {P : Int × Int → Prop} (hP : ¬ P (-1,-1)) {i : Nat} {p : Pr} (hno : ∀ j q,j < i → l[j]? = some q → ¬ P q.pr) (hp : l[i]? = some p) (hy : P p.pr) : LeastW (LeadsTo (stp2 a b) (a.st,b.st) evs P) p.w := by
 rcases h with ⟨_,_,rfl⟩ | h
 · simp at hp
 · have hil := (List.getElem?_eq_some_iff.1 hp).1;have h0 : LeadsTo (stp2 a b) (a.st,b.st) evs P p.w := ⟨h.bf.over p.w (List.mem_map.2 ⟨p,List.mem_of_getElem? hp,rfl⟩),by
    rw [h.bf.run i p.pr p.w (by rw [List.getElem?_map,hp]; rfl) (by rw [List.getElem?_map,hp]; rfl)]; exact hy⟩
   refine ⟨h0,fun u hu => ?_⟩;rcases h.bf.claim (fun s e hs => stp2_dead ha hb s e hs) u hu.1 with g | ⟨j,x,hj,hx,hle⟩ | ⟨wi,hi,hle⟩
   · exact absurd hu.2 (by rw [g]; exact hP)
   · rw [List.getElem?_map,Option.map_eq_some_iff] at hj hx;obtain ⟨q,hq,hqe⟩ := hj;obtain ⟨q',hq',rfl⟩ := hx;obtain rfl := Option.some.inj (hq.symm.trans hq');by_cases hji : j < i
     · exact absurd (hqe ▸ hu.2) (hno j q hji hq)
     · rcases Nat.lt_or_eq_of_le (Nat.le_of_not_lt hji) with g | g
       · exact .trans (.inl (h.bf.asc i j p.w q.w g (by rw [List.getElem?_map,hp]; rfl) (by rw [List.getElem?_map,hq]; rfl))) hle
       · subst g; rw [hp] at hq; cases hq; exact hle
   · have := (List.getElem?_eq_some_iff.1 hi).1;rw [List.length_map] at this;omega
theorem PAll.none_ {a b : Au} (ha : a.Right) (hb : b.Right) {evs : List Int} {l : List Pr} (h : PAll a b evs l) {P : Int × Int → Prop} (hP : ¬ P (-1,-1)) (hno : ∀ (j : Nat) q,l[j]? = some q → ¬ P q.pr) (u : List Int) : ¬ LeadsTo (stp2 a b) (a.st,b.st) evs P u := by
 rcases h with ⟨h1,h2,rfl⟩ | h
 · rintro ⟨_,hu⟩;have hd : ∀ w : List Int,w.foldl (stp2 a b) (a.st,b.st) = (-1,-1) := snoc_ind (by show (a.st,b.st) = (-1,-1); unfold Au.st; rw [if_pos h1,if_pos h2]) (fun w e ih => by
    rw [List.foldl_append,ih];exact stp2_dead ha hb _ e rfl)
   rw [hd] at hu;exact hP hu
 · exact h.bf.none_ (fun s e hs => stp2_dead ha hb s e hs) (fun s hs => by rw [hs]; exact hP) (by simp) (fun j v hv => by
    rw [List.getElem?_map,Option.map_eq_some_iff] at hv;obtain ⟨q,hq,rfl⟩ := hv;exact hno j q hq) u
theorem PAll.mem {a b : Au} {evs : List Int} {l : List Pr} (h : PAll a b evs l) : (∀ p,p ∈ l → rgP a b p.pr) ∧ (l.map Pr.pr).Nodup := by
 rcases h with ⟨_,_,rfl⟩ | h
 · simp
 · exact ⟨fun p hp => h.rg _ (List.mem_map.2 ⟨p,hp,rfl⟩),h.nd⟩
theorem PAll.len {a b : Au} (ha : a.Right) (hb : b.Right) {evs : List Int} {l : List Pr} (h : PAll a b evs l) : l.length ≤ (a.n.toNat + 1) * (b.n.toNat + 1) := by
 rcases h with ⟨_,_,rfl⟩ | h
 · simp
 · exact h.len ha hb
theorem rn_over {a : Au} (ha : a.Right) : ∀ w : List Int,0 ≤ rn a w → ∀ e,e ∈ w → e ∈ a.al := by
 refine snoc_ind (fun _ e he => by simp at he) (fun w e ih h x hx => ?_);have h1 := rn_pre h;rcases List.mem_append.1 hx with g | g
 · exact ih h1 x g
 · rw [List.mem_singleton.1 g];rw [rn_snoc a w e h1] at h;rcases ha.next_cases (rn a w) e with k | ⟨_,_,y,hy,_,rfl,_⟩
   · omega
   · obtain ⟨j,hj,rfl⟩ := List.mem_iff_getElem.1 hy;exact (ha.ed j hj _ (List.getElem?_eq_getElem hj)).2.2.2.2.1
end
section

def rowG (al : List Int) (i : Nat) (f : Int → Int) : List Ed := al.filterMap fun e => if 0 ≤ f e then some ⟨(i : Int),e,f e⟩ else none
def rowsG (al : List Int) (nx : Nat → Int → Int) (n : Nat) : List Ed := (List.range n).flatMap fun i => rowG al i (nx i)
theorem rowG_yes (al : List Int) (i : Nat) (f : Int → Int) (e : Int) (h : 0 ≤ f e) : rowG (al ++ [e]) i f = rowG al i f ++ [⟨(i : Int),e,f e⟩] := by
 unfold rowG
 rw [List.filterMap_append];simp [h]
theorem rowG_no (al : List Int) (i : Nat) (f : Int → Int) (e : Int) (h : ¬ 0 ≤ f e) : rowG (al ++ [e]) i f = rowG al i f := by
 unfold rowG
 rw [List.filterMap_append];simp [h]
theorem rowsG_succ (al : List Int) (nx : Nat → Int → Int) (n : Nat) : rowsG al nx (n + 1) = rowsG al nx n ++ rowG al n (nx n) := by
 unfold rowsG
 rw [List.range_succ,List.flatMap_append];simp
theorem mem_rowG {al : List Int} {i : Nat} {f : Int → Int} {x : Ed} : x ∈ rowG al i f ↔ ∃ e,e ∈ al ∧ 0 ≤ f e ∧ x = ⟨(i : Int),e,f e⟩ := by
 unfold rowG
 rw [List.mem_filterMap];constructor
 · rintro ⟨e,he,h⟩;split at h
   · cases h; exact ⟨e,he,by assumption,rfl⟩
   · cases h
 · rintro ⟨e,he,h,rfl⟩;exact ⟨e,he,by rw [if_pos h]⟩
theorem mem_rowsG {al : List Int} {nx : Nat → Int → Int} {n : Nat} {x : Ed} : x ∈ rowsG al nx n ↔ ∃ i e,i < n ∧ e ∈ al ∧ 0 ≤ nx i e ∧ x = ⟨(i : Int),e,nx i e⟩ := by
 unfold rowsG
 simp only [List.mem_flatMap,List.mem_range,mem_rowG];constructor
 · rintro ⟨i,hi,e,he,h,rfl⟩; exact ⟨i,e,hi,he,h,rfl⟩
 · rintro ⟨i,e,hi,he,h,rfl⟩; exact ⟨i,hi,e,he,h,rfl⟩
theorem rowG_len (al : List Int) (i : Nat) (f : Int → Int) : (rowG al i f).length ≤ al.length := List.length_filterMap_le ..
theorem rowsG_len (al : List Int) (nx : Nat → Int → Int) : ∀ n,(rowsG al nx n).length ≤ n * al.length
 | 0 => by simp [rowsG]
 | n + 1 => by
   rw [rowsG_succ,List.length_append,Nat.succ_mul];have := rowsG_len al nx n;have := rowG_len al n (nx n);omega
theorem rowG_rises {al : List Int} (h : al.Pairwise (· < ·)) (i : Nat) (f : Int → Int) : (rowG al i f).Pairwise edLt := by
 unfold rowG
 rw [List.pairwise_filterMap];refine h.imp fun {a b} hab x hx y hy => ?_;split at hx
 · split at hy
   · cases hx; cases hy; exact .inr ⟨rfl,hab⟩
   · cases hy
 · cases hx
theorem rowsG_rises {al : List Int} (h : al.Pairwise (· < ·)) (nx : Nat → Int → Int) : ∀ n,(rowsG al nx n).Pairwise edLt
 | 0 => by simp [rowsG]
 | n + 1 => by
   rw [rowsG_succ,List.pairwise_append];refine ⟨rowsG_rises h nx n,rowG_rises h n _,fun x hx y hy => ?_⟩;obtain ⟨i,e,hi,_,_,rfl⟩ := mem_rowsG.1 hx;obtain ⟨e',_,_,rfl⟩ := mem_rowG.1 hy;exact .inl (by show (i : Int) < (n : Int); omega)
section
variable {al mr : List Int} {nx : Nat → Int → Int} {n : Nat}
theorem rowsG_right (hal : setOk al 32 al.length) (hn : n ≤ 4096) (hto : ∀ i e,i < n → e ∈ al → nx i e < n) (hmr : setOk mr n mr.length) : (⟨al,n,mr,rowsG al nx n⟩ : Au).Right := by
 refine ⟨hal,Int.natCast_nonneg _,by show ((n : Nat) : Int) ≤ 4096; omega,hmr,fun p hp x hx => ?_⟩;obtain ⟨i,e,hi,he,h0,rfl⟩ := mem_rowsG.1 (List.mem_of_getElem? hx);refine ⟨Int.natCast_nonneg _,by show (i : Int) < (n : Int); omega,h0,hto i e hi he,he,fun y hy hyx => ?_⟩;have hpw := List.pairwise_iff_getElem.1 (rowsG_rises hal.incr.pw nx n);obtain ⟨h1,h2⟩ := List.getElem?_eq_some_iff.1 hyx;obtain ⟨h3,h4⟩ := List.getElem?_eq_some_iff.1 hx;have := hpw (p - 1) p h1 h3 (by omega);rw [h2,h4] at this;exact this
theorem Au.Right.next_of {a : Au} (h : a.Right) {s e t : Int} (hm : (⟨s,e,t⟩ : Ed) ∈ a.ed) : nextV a.ed s e = t := by
 obtain ⟨p,hp,hpx⟩ := List.mem_iff_getElem.1 hm;exact h.nextE (p := p) (x := ⟨s,e,t⟩) (by rw [List.getElem?_eq_getElem hp,hpx])
theorem rowsG_next (hr : (⟨al,n,mr,rowsG al nx n⟩ : Au).Right) {i : Nat} {e : Int} (hi : i < n) (he : e ∈ al) : nextV (rowsG al nx n) i e = if 0 ≤ nx i e then nx i e else -1 := by
 by_cases h : 0 ≤ nx i e
 · rw [if_pos h];exact hr.next_of (mem_rowsG.2 ⟨i,e,hi,he,h,rfl⟩)
 · rw [if_neg h];rcases hr.next_cases (i : Int) e with g | ⟨_,_,x,hx,x1,x2,_⟩
   · exact g
   · obtain ⟨j,e',_,_,h0,rfl⟩ := mem_rowsG.1 hx;simp only at x1 x2
     obtain rfl : j = i := by omega
     subst x2;exact absurd h0 h
theorem rowsG_out (hr : (⟨al,n,mr,rowsG al nx n⟩ : Au).Right) {s e : Int} (he : ¬ e ∈ al) : nextV (rowsG al nx n) s e = -1 := by
 rcases hr.next_cases s e with g | ⟨_,_,x,hx,x1,x2,_⟩
 · exact g
 · obtain ⟨j,e',_,he',_,rfl⟩ := mem_rowsG.1 hx;simp only at x2
   subst x2;exact absurd he' he
theorem rowsG_run (hr : (⟨al,n,mr,rowsG al nx n⟩ : Au).Right) {σ : Type} (stp : σ → Int → σ) (val : σ → Int) (I : σ → Prop) (hI : ∀ s e,I s → I (stp s e)) (hv : ∀ s,val s = -1 ∨ 0 ≤ val s ∧ val s < n)
 (h1 : ∀ s e,I s → 0 ≤ val s → e ∈ al → val (stp s e) = if 0 ≤ nx (val s).toNat e then nx (val s).toNat e else -1) (h2 : ∀ s e,I s → val s = -1 → val (stp s e) = -1) (h3 : ∀ s e,I s → ¬ e ∈ al → val (stp s e) = -1) :
 ∀ (w : List Int) (s : σ),I s → runV (rowsG al nx n) (val s) w = val (w.foldl stp s)
 | [],s,_ => rfl
 | e :: w,s,hs => by
   rw [List.foldl_cons,← rowsG_run hr stp val I hI hv h1 h2 h3 w (stp s e) (hI s e hs)];rcases hv s with h | h
   · rw [h,h2 s e hs h,runV_neg _ (by omega),runV_neg _ (by omega)]
   · rw [runV,if_pos h.1];congr 1
     by_cases he : e ∈ al
     · rw [h1 s e hs h.1 he];have := rowsG_next hr (i := (val s).toNat) (e := e) (by omega) he;rw [Int.toNat_of_nonneg h.1] at this;exact this
     · rw [h3 s e hs he,rowsG_out hr he]
end
def posK {κ : Type} [DecidableEq κ] (l : List κ) (k : κ) : Int := if k ∈ l then (idxK l k : Int) else -1
section
variable {κ : Type} [DecidableEq κ]
theorem posK_cases (l : List κ) (k : κ) : posK l k = -1 ∨ 0 ≤ posK l k ∧ posK l k < l.length := by
 unfold posK
 split
 · rename_i h; have := idxK_lt h; exact .inr ⟨by omega,by omega⟩
 · exact .inl rfl
theorem posK_get {l : List κ} (hn : l.Nodup) {i : Nat} {k : κ} (h : l[i]? = some k) : posK l k = (i : Int) := by
 have hm := List.mem_of_getElem? h;unfold posK
 rw [if_pos hm];have h1 := idxK_get hm;have : idxK l k = i := (List.getElem?_inj (idxK_lt hm) hn).1 (h1.trans h.symm);rw [this]
theorem posK_no {l : List κ} {k : κ} (h : ¬ k ∈ l) : posK l k = -1 := if_neg h
theorem posK_mem {l : List κ} {k : κ} : 0 ≤ posK l k ↔ k ∈ l := by
 unfold posK
 split
 · rename_i h; exact ⟨fun _ => h,fun _ => Int.natCast_nonneg _⟩
 · rename_i h; exact ⟨fun g => by omega,fun g => absurd g h⟩
theorem posK_some {l : List κ} {k : κ} (h : 0 ≤ posK l k) : l[(posK l k).toNat]? = some k := by
 have hm := posK_mem.1 h;unfold posK
 rw [if_pos hm,Int.toNat_natCast];exact idxK_get hm
end
end
section

theorem Bfs.leastAt {α : Type} {stp : α → Int → α} {s0 : α} {dead : α → Prop} {evs : List Int} (hd : ∀ s e,dead s → dead (stp s e)) {P : α → Prop} (hP : ∀ s,dead s → ¬ P s) {k : Nat} {vs : List α} {ws : List (List Int)} (h : Bfs stp s0 dead evs vs.length k vs ws) {i : Nat} (hno : ∀ j v,j < i → vs[j]? = some v → ¬ P v)
 {v : α} {w : List Int} (hv : vs[i]? = some v) (hw : ws[i]? = some w) (hp : P v) : LeastW (LeadsTo stp s0 evs P) w := by
 refine ⟨⟨h.over w (List.mem_of_getElem? hw),by rw [h.run i v w hv hw]; exact hp⟩,fun u hu => ?_⟩;rcases h.claim hd u hu.1 with g | ⟨j,x,hj,hx,hle⟩ | ⟨wi,hi,_⟩
 · exact absurd hu.2 (hP _ g)
 · by_cases hji : j < i
   · exact absurd hu.2 (hno j _ hji hj)
   · rcases Nat.lt_or_eq_of_le (Nat.le_of_not_lt hji) with g | g
     · exact .trans (.inl (h.asc i j w x g hw hx)) hle
     · subst g; rw [hw] at hx; cases hx; exact hle
 · have := (List.getElem?_eq_some_iff.1 hi).1;rw [h.len] at this;omega
theorem Au.Right.raw {q : Au} (h : q.Right) : Raw q := ⟨h.al,h.n0,h.n1,fun x hx => by
 obtain ⟨j,hj,rfl⟩ := List.mem_iff_getElem.1 hx;have := h.ed j hj _ (List.getElem?_eq_getElem hj);exact ⟨this.2.2.1,this.2.2.2.1⟩⟩
section
variable {q : Au}
theorem Au.Right.next_neg (h : q.Right) (e : Int) : nextV q.ed (-1) e = -1 := by
 rcases h.next_cases (-1) e with g | ⟨_,_,x,hx,x1,_⟩
 · exact g
 · obtain ⟨j,hj,rfl⟩ := List.mem_iff_getElem.1 hx;have := (h.ed j hj _ (List.getElem?_eq_getElem hj)).1;omega
theorem Au.Right.fold_neg (h : q.Right) : ∀ w : List Int,w.foldl (nextV q.ed) (-1) = -1
 | [] => rfl
 | e :: w => by rw [List.foldl_cons,h.next_neg,h.fold_neg w]
theorem Au.Right.fold (h : q.Right) : ∀ (w : List Int) (s : Int),s = -1 ∨ 0 ≤ s → w.foldl (nextV q.ed) s = runV q.ed s w
 | [],s,_ => rfl
 | e :: w,s,hs => by
   rw [List.foldl_cons,runV];rcases hs with rfl | hs
   · rw [if_neg (by omega),h.next_neg,h.fold_neg]
   · rw [if_pos hs];refine h.fold w _ ?_;rcases h.next_cases s e with g | g
     · exact .inl g
     · exact .inr g.1
theorem Au.Right.next_out (h : q.Right) {s e : Int} (he : ¬ e ∈ q.al) : nextV q.ed s e = -1 := by
 rcases h.next_cases s e with g | ⟨_,_,x,hx,_,rfl,_⟩
 · exact g
 · obtain ⟨j,hj,rfl⟩ := List.mem_iff_getElem.1 hx;exact absurd (h.ed j hj _ (List.getElem?_eq_getElem hj)).2.2.2.2.1 he
abbrev BfsQ (q : Au) (i k : Nat) (fd : List Int) (ws : List (List Int)) : Prop := Bfs (nextV q.ed) 0 (fun s => s = -1) q.al i k fd ws
theorem bfs_scan (hq : q.Right) {i : Nat} {s : Int} : ∀ (k : Nat),k ≤ q.al.length → ∀ {fd : List Int} {ws : List (List Int)},BfsQ q i 0 fd ws → fd[i]? = some s → ∃ ws',BfsQ q i k (scanV q.ed s (q.al.take k) fd) ws'
 | 0,_,fd,ws,h,hs => ⟨ws,h⟩
 | k + 1,hk,fd,ws,h,hs => by
   obtain ⟨ws',h'⟩ := bfs_scan hq k (by omega) h hs;obtain ⟨e,he⟩ : ∃ e,q.al[k]? = some e := ⟨_,List.getElem?_eq_getElem (by omega)⟩;rw [List.take_add_one,he,Option.toList_some,scanV_snoc];have hp := scanV_pre q.ed s (q.al.take k) fd;have hs' : (scanV q.ed s (q.al.take k) fd)[i]? = some s := by
    obtain ⟨r,hr⟩ := hp;rw [← hr,List.getElem?_append_left (List.getElem?_eq_some_iff.1 hs).1]; exact hs
   unfold addV
   split
   · rename_i g
     obtain ⟨wi,hwi⟩ := h'.word hs';exact ⟨_,h'.push hq.al.incr hs' he hwi⟩
   · rename_i g
     refine ⟨ws',h'.skip hq.al.incr hs' he ?_⟩;by_cases h0 : 0 ≤ nextV q.ed s e
     · have hm : nextV q.ed s e ∈ scanV q.ed s (q.al.take k) fd := Classical.not_not.1 fun hm => g ⟨h0,hm⟩;obtain ⟨j,hj,hje⟩ := List.mem_iff_getElem.1 hm;exact .inr ⟨j,by rw [List.getElem?_eq_getElem hj,hje]⟩
     · refine .inl ?_;rcases hq.next_cases s e with k | k
       · exact k
       · exact absurd k.1 h0
theorem bfs_foundL (hq : q.Right) : ∀ (f i : Nat) (out : List Int) (ws : List (List Int)),Sts q.n out → BfsQ q i 0 out ws → i ≤ out.length → q.n.toNat < f + i → ∃ ws',BfsQ q (foundL q f i out).length 0 (foundL q f i out) ws'
 | 0,i,out,ws,h1,h2,h3,h4 => by have := h1.len hq.n0; omega
 | f + 1,i,out,ws,h1,h2,h3,h4 => by
   unfold foundL
   cases hs : out[i]? with
   | none =>
     have : out.length ≤ i := List.getElem?_eq_none_iff.1 hs;obtain rfl : i = out.length := by omega
     exact ⟨ws,h2⟩
   | some s =>
     have hp := scanV_pre q.ed s q.al out;have hi := (List.getElem?_eq_some_iff.1 hs).1;obtain ⟨ws',h'⟩ := bfs_scan hq q.al.length (Nat.le_refl _) h2 hs;rw [List.take_length] at h';exact bfs_foundL hq f (i + 1) _ ws' (Sts.scan hq.raw.ld hq.n0 s q.al h1) h'.next (by have := hp.length_le; omega) (by omega)
theorem bfs_found (hq : q.Right) (hn : 0 < q.n) : ∃ ws,BfsQ q (foundV q).length 0 (foundV q) ws := by
 unfold foundV
 rw [if_pos hn];exact bfs_foundL hq _ 0 [0] [[]] ⟨by simp,fun x hx => by simp at hx; omega⟩ Bfs.start (by simp) (by omega)
theorem mem_marksV' {mr fd : List Int} {k : Nat} (i : Nat) : (i : Int) ∈ marksV mr fd k ↔ i < k ∧ fd.getD i 0 ∈ mr := by
 unfold marksV
 simp only [List.mem_map,List.mem_filter,List.mem_range,decide_eq_true_eq];constructor
 · rintro ⟨j,h,e⟩;obtain rfl : j = i := by omega
   exact h
 · exact fun h => ⟨i,h,rfl⟩
def nxC (q : Au) (i : Nat) (e : Int) : Int := posK (foundV q) (nextV q.ed ((foundV q).getD i 0) e)
theorem idxV_pos {l : List Int} (hn : l.Nodup) {x : Int} (h : x ∈ l) : idxV l x = posK l x := by
 obtain ⟨j,h1,h2⟩ := idxV_in h;rw [h1,posK_get hn h2]
theorem fmCongr {α β : Type} {f g : α → Option β} : ∀ {l : List α},(∀ x,x ∈ l → f x = g x) → l.filterMap f = l.filterMap g
 | [],_ => rfl
 | a :: l,h => by
   rw [List.filterMap_cons,List.filterMap_cons,h a (by simp),fmCongr fun x hx => h x (by simp [hx])]
theorem canon_rows (hq : q.Right) (k : Nat) (hk : k ≤ (foundV q).length) : rowsV q.ed (foundV q) q.al k = rowsG q.al (nxC q) k := by
 have hf := foundV_ok hq.raw.ld hq.n0;induction k with
 | zero => rfl
 | succ k ih =>
   rw [rowsV_succ,rowsG_succ,ih (by omega)];congr 1
   unfold rowV rowG
   refine fmCongr fun e he => ?_;obtain ⟨s,hs⟩ : ∃ s,(foundV q)[k]? = some s := ⟨_,List.getElem?_eq_getElem (by omega)⟩;have hg : (foundV q).getD k 0 = s := by rw [List.getD_eq_getElem?_getD,hs]; rfl
   unfold nxC
   rw [hg];by_cases h0 : 0 ≤ nextV q.ed s e
   · have hm := hf.cl k s e (by omega) hs he h0;rw [if_pos h0,if_pos (posK_mem.2 hm),idxV_pos hf.st.nd hm]
   · rw [if_neg h0,if_neg];intro h;have := hf.st.rg _ (posK_mem.1 h);exact h0 this.1
theorem canon_eq (hq : q.Right) : canonV q = ⟨q.al,(foundV q).length,marksV q.mr (foundV q) (foundV q).length,rowsG q.al (nxC q) (foundV q).length⟩ := by
 unfold canonV
 rw [canon_rows hq _ (Nat.le_refl _)]
theorem canon_run (hq : q.Right) (s : Int) (hs : s = -1 ∨ s ∈ foundV q) (w : List Int) : runV (canonV q).ed (posK (foundV q) s) w = posK (foundV q) (runV q.ed s w) := by
 have hf := foundV_ok hq.raw.ld hq.n0;have hr := canonV_right hq.raw;rw [canon_eq hq] at hr ⊢;rw [← hq.fold w s (hs.imp id fun h => (hf.st.rg s h).1)];have hneg : ¬ (-1 : Int) ∈ foundV q := fun h => by have := (hf.st.rg _ h).1; omega
 refine rowsG_run hr (nextV q.ed) (posK (foundV q)) (fun s => s = -1 ∨ s ∈ foundV q) (fun s e hs => ?_) (fun s => posK_cases _ s) (fun s e hs h0 he => ?_) (fun s e hs h => ?_) (fun s e hs he => ?_) w s hs
 · rcases hs with rfl | hs
   · exact .inl (hq.next_neg e)
   · rcases hq.next_cases s e with g | g
     · exact .inl g
     · by_cases he : e ∈ q.al
       · obtain ⟨j,hj,hjs⟩ := List.mem_iff_getElem.1 hs;exact .inr (hf.cl j s e hj (by rw [List.getElem?_eq_getElem hj,hjs]) he g.1)
       · exact .inl (hq.next_out he)
 · have h1 := posK_some h0;have : nxC q (posK (foundV q) s).toNat e = posK (foundV q) (nextV q.ed s e) := by
    unfold nxC
    rw [List.getD_eq_getElem?_getD,h1];rfl
   rw [this];rcases posK_cases (foundV q) (nextV q.ed s e) with g | g
   · rw [g]; rfl
   · rw [if_pos g.1]
 · have : ¬ s ∈ foundV q := fun hm => by have := posK_mem.2 hm; omega
   rcases hs with rfl | hs
   · rw [hq.next_neg]; exact h
   · exact absurd hs this
 · rw [hq.next_out he];exact posK_no hneg
theorem canon_mark (hq : q.Right) {s : Int} (hs : s = -1 ∨ s ∈ foundV q) : posK (foundV q) s ∈ (canonV q).mr ↔ s ∈ q.mr := by
 have hf := foundV_ok hq.raw.ld hq.n0;rcases hs with rfl | hs
 · have hneg : ¬ (-1 : Int) ∈ foundV q := fun h => by have := (hf.st.rg _ h).1; omega
   rw [posK_no hneg];exact ⟨fun h => by have := (mem_marksV h).1; omega,fun h => by have := (hq.mem h).1; omega⟩
 · have h0 := posK_mem.2 hs;have h1 := posK_some h0;have e : posK (foundV q) s = (((posK (foundV q) s).toNat : Nat) : Int) := (Int.toNat_of_nonneg h0).symm;rw [e];show _ ∈ marksV q.mr (foundV q) (foundV q).length ↔ _
   rw [mem_marksV',List.getD_eq_getElem?_getD,h1];exact ⟨fun h => h.2,fun h => ⟨(List.getElem?_eq_some_iff.1 h1).1,h⟩⟩
theorem found_run (hq : q.Right) {s : Int} (hs : s = -1 ∨ s ∈ foundV q) (w : List Int) : runV q.ed s w = -1 ∨ runV q.ed s w ∈ foundV q := by
 have hf := foundV_ok hq.raw.ld hq.n0;induction w generalizing s with
 | nil => exact hs
 | cons e w ih =>
   rw [runV];rcases hs with rfl | hs
   · rw [if_neg (by omega)]; exact .inl rfl
   · rw [if_pos (hf.st.rg s hs).1];refine ih ?_;rcases hq.next_cases s e with g | g
     · exact .inl g
     · by_cases he : e ∈ q.al
       · obtain ⟨j,hj,hjs⟩ := List.mem_iff_getElem.1 hs;exact .inr (hf.cl j s e hj (by rw [List.getElem?_eq_getElem hj,hjs]) he g.1)
       · exact .inl (hq.next_out he)
theorem canon_isMin (hq : q.Right) (hn : 0 < q.n) (hco : ∀ s,0 ≤ s → s < q.n → ∃ w,runV q.ed s w ∈ q.mr) (hds : ∀ s t,0 ≤ s → s < q.n → 0 ≤ t → t < q.n → (∀ w,runV q.ed s w ∈ q.mr ↔ runV q.ed t w ∈ q.mr) → s = t) : IsMin (canonV q) (fun w => rn q w ∈ q.mr) := by
 have hf := foundV_ok hq.raw.ld hq.n0;obtain ⟨ws,hws⟩ := bfs_found hq hn;have hz := hf.z hn;have hlen : 0 < (foundV q).length := (List.getElem?_eq_some_iff.1 hz).1;have h0m : (0 : Int) ∈ foundV q := List.mem_of_getElem? hz;have hst : (canonV q).st = posK (foundV q) 0 := by
  rw [posK_get hf.st.nd hz];unfold Au.st
  rw [if_neg]
  · rfl
  · show ¬ (((foundV q).length : Nat) : Int) = 0
    omega
 have hqst : q.st = 0 := by unfold Au.st; rw [if_neg (by omega)]
 have hrn : ∀ w,rn (canonV q) w = posK (foundV q) (rn q w) := fun w => by
  unfold rn
  rw [hst,hqst];exact canon_run hq 0 (.inr h0m) w
 have hin : ∀ w,rn q w = -1 ∨ rn q w ∈ foundV q := fun w => by
  unfold rn
  rw [hqst];exact found_run hq (.inr h0m) w
 have hat : ∀ i : Int,0 ≤ i → i < (canonV q).n → ∃ s,s ∈ foundV q ∧ posK (foundV q) s = i := fun i h0 h1 => by
  have h1' : i < (((foundV q).length : Nat) : Int) := h1;obtain ⟨k,rfl⟩ := Int.eq_ofNat_of_zero_le h0;have hk : k < (foundV q).length := by omega
  exact ⟨(foundV q)[k],List.getElem_mem hk,posK_get hf.st.nd (List.getElem?_eq_getElem hk)⟩
 have hmk : ∀ s,s ∈ foundV q → ∀ w,runV (canonV q).ed (posK (foundV q) s) w ∈ (canonV q).mr ↔ runV q.ed s w ∈ q.mr := fun s hs w => by
  rw [canon_run hq s (.inr hs) w];exact canon_mark hq (found_run hq (.inr hs) w)
 refine ⟨canonV_right hq.raw,⟨ws,?_,hws.asc,fun i w hw => ?_⟩,fun i h0 h1 => ?_,fun i j h0 h1 k0 k1 h => ?_,fun w => ?_⟩
 · rw [hws.len];show (foundV q).length = (((foundV q).length : Nat) : Int).toNat
   simp
 · obtain ⟨v,hv⟩ : ∃ v,(foundV q)[i]? = some v := ⟨_,List.getElem?_eq_getElem (by rw [← hws.len]; exact (List.getElem?_eq_some_iff.1 hw).1)⟩;have hvm := List.mem_of_getElem? hv;have hv0 := (hf.st.rg v hvm).1;have hl := hws.leastAt (P := fun s => s = v) (fun s e hs => by rw [hs]; exact hq.next_neg e) (fun s hs h => by omega) (fun j u hj hu h => by
    subst h;have := (List.getElem?_inj (List.getElem?_eq_some_iff.1 hu).1 hf.st.nd).1 (hu.trans hv.symm);omega) hv hw rfl
   refine hl.congr fun u => ?_;unfold LeadsTo
   have hfold : u.foldl (nextV q.ed) 0 = rn q u := by unfold rn; rw [hqst]; exact hq.fold u 0 (.inr (Int.le_refl _))
   simp only [hfold,hrn];constructor
   · rintro ⟨_,h⟩;rw [h];exact posK_get hf.st.nd hv
   · intro h;have hm : rn q u ∈ foundV q := posK_mem.1 (by omega);have h1 := posK_some (l := foundV q) (k := rn q u) (by omega);rw [h,Int.toNat_natCast,hv] at h1;have e := (Option.some.inj h1).symm;exact ⟨rn_over hq u (by rw [e]; exact hv0),e⟩
 · obtain ⟨s,hs,rfl⟩ := hat i h0 h1;obtain ⟨w,hw⟩ := hco s (hf.st.rg s hs).1 (hf.st.rg s hs).2;exact ⟨w,(hmk s hs w).2 hw⟩
 · obtain ⟨s,hs,rfl⟩ := hat i h0 h1;obtain ⟨t,ht,rfl⟩ := hat j k0 k1;rw [hds s t (hf.st.rg s hs).1 (hf.st.rg s hs).2 (hf.st.rg t ht).1 (hf.st.rg t ht).2 fun w => by rw [← hmk s hs,← hmk t ht]; exact h w]
 · rw [hrn];exact canon_mark hq (hin w)
end
theorem empty_isMin {al : List Int} (hal : setOk al 32 al.length) {L : List Int → Prop} (hL : ∀ w,¬ L w) : IsMin ⟨al,0,[],[]⟩ L := by
 have hr : (⟨al,0,[],[]⟩ : Au).Right := ⟨hal,Int.le_refl _,by show (0 : Int) ≤ 4096; decide,fun i x hi => by simp at hi,fun i hi => by simp at hi⟩;refine ⟨hr,⟨[],rfl,fun i j u v _ hu => by simp at hu,fun i w hw => by simp at hw⟩,fun i h0 h1 => by simp only at h1; omega,fun i j h0 h1 => by simp only at h1; omega,fun w => ⟨fun h => by simp at h,fun h => absurd h (hL w)⟩⟩
end
section

def numO {κ : Type} [DecidableEq κ] (l : List (Option κ)) : List Int := l.map fun o => match o with
 | none => 0
 | some k => 1 + ((idxK (seenK [] (l.filterMap id)) k : Nat) : Int)
def cntO {κ : Type} [DecidableEq κ] (l : List (Option κ)) : Nat := (seenK [] (l.filterMap id)).length
section
variable {κ : Type} [DecidableEq κ]
theorem numO_len (l : List (Option κ)) : (numO l).length = l.length := by simp [numO]
theorem mem_seen {l : List κ} {k : κ} : k ∈ seenK [] l ↔ k ∈ l := by rw [mem_seenK]; simp
theorem numO_get {l : List (Option κ)} {i : Nat} {k : κ} (h : l[i]? = some (some k)) : (numO l)[i]? = some (1 + ((idxK (seenK [] (l.filterMap id)) k : Nat) : Int)) := by
 unfold numO
 rw [List.getElem?_map,h];rfl
theorem numO_none {l : List (Option κ)} {i : Nat} (h : l[i]? = some none) : (numO l)[i]? = some 0 := by
 unfold numO
 rw [List.getElem?_map,h];rfl
theorem fm_mem {τ : Type} {l : List (Option τ)} {i : Nat} {k : τ} (h : l[i]? = some (some k)) : k ∈ l.filterMap id := List.mem_filterMap.2 ⟨some k,List.mem_of_getElem? h,rfl⟩
theorem numO_snoc_none (l : List (Option κ)) : numO (l ++ [none]) = numO l ++ [0] := by
 unfold numO
 rw [List.map_append,List.filterMap_append];simp
theorem numO_snoc_some (l : List (Option κ)) (k : κ) : numO (l ++ [some k]) = numO l ++ [if k ∈ l.filterMap id then 1 + ((idxK (seenK [] (l.filterMap id)) k : Nat) : Int) else 1 + (cntO l : Int)] := by
 unfold numO cntO
 rw [List.map_append,List.filterMap_append];congr 1
 · refine List.map_congr_left fun o ho => ?_;cases o with
   | none => rfl
   | some y =>
     simp only [List.filterMap_cons,List.filterMap_nil,id_eq];rw [seenK_snoc];split
     · rfl
     · rw [idxK_app (mem_seen.2 (List.mem_filterMap.2 ⟨some y,ho,rfl⟩ : y ∈ l.filterMap id))]
 · simp only [List.map_cons,List.map_nil,List.filterMap_cons,List.filterMap_nil,id_eq];rw [seenK_snoc];by_cases h : k ∈ l.filterMap id
   · rw [if_pos h,if_pos (mem_seen.2 h)]
   · rw [if_neg h,if_neg (fun g => h (mem_seen.1 g)),idxK_new (fun g => h (mem_seen.1 g))]
theorem cntO_none (l : List (Option κ)) : cntO (l ++ [none]) = cntO l := by unfold cntO; rw [List.filterMap_append]; simp
theorem cntO_some (l : List (Option κ)) (k : κ) : cntO (l ++ [some k]) = if k ∈ l.filterMap id then cntO l else cntO l + 1 := by
 unfold cntO
 rw [List.filterMap_append];simp only [List.filterMap_cons,List.filterMap_nil,id_eq];rw [seenK_snoc];by_cases h : k ∈ l.filterMap id
 · rw [if_pos (mem_seen.2 h),if_pos h]
 · rw [if_neg (fun g => h (mem_seen.1 g)),if_neg h]; simp
theorem numO_can : ∀ (l : List (Option κ)),(∀ (i : Nat) (x : Int),(numO l)[i]? = some x → 0 ≤ x ∧ x ≤ cntO l) ∧ (∀ (i : Nat) (v : Nat),(numO l)[i]? = some ((v : Int) + 2) → ∃ j : Nat,j < i ∧ (numO l)[j]? = some ((v : Int) + 1)) ∧ (∀ x : Nat,x < cntO l → ∃ i : Nat,(numO l)[i]? = some ((x : Int) + 1)) := by
 refine snoc_ind (P := fun l : List (Option κ) => (∀ (i : Nat) (x : Int),(numO l)[i]? = some x → 0 ≤ x ∧ x ≤ cntO l) ∧ (∀ (i : Nat) (v : Nat),(numO l)[i]? = some ((v : Int) + 2) → ∃ j : Nat,j < i ∧ (numO l)[j]? = some ((v : Int) + 1)) ∧ (∀ x : Nat,x < cntO l → ∃ i : Nat,(numO l)[i]? = some ((x : Int) + 1))) ?_ ?_
 · exact ⟨fun i x h => by simp [numO] at h,fun i v h => by simp [numO] at h,fun x h => by simp [cntO,seenK] at h⟩
 · intro l o ih;obtain ⟨h1,h2,h3⟩ := ih;have keep : ∀ {i : Nat} {x y : Int},(numO l)[i]? = some x → (numO l ++ [y])[i]? = some x := fun h => get_keep h _;cases o with
   | none =>
     rw [numO_snoc_none,cntO_none];refine ⟨fun i x h => ?_,fun i v h => ?_,fun x h => ?_⟩
     · rcases getElem?_snoc h with g | ⟨_,rfl⟩
       · exact h1 i x g
       · exact ⟨by omega,by omega⟩
     · rcases getElem?_snoc h with g | ⟨_,g⟩
       · obtain ⟨j,hj,hg⟩ := h2 i v g;exact ⟨j,hj,keep hg⟩
       · omega
     · obtain ⟨i,hi⟩ := h3 x h;exact ⟨i,keep hi⟩
   | some k =>
     rw [numO_snoc_some,cntO_some];by_cases hk : k ∈ l.filterMap id
     · rw [if_pos hk,if_pos hk];obtain ⟨a,ha,hak⟩ := List.mem_filterMap.1 hk;obtain rfl : a = some k := hak;obtain ⟨q,hq,hqe⟩ := List.mem_iff_getElem.1 ha;have hqg : l[q]? = some (some k) := by rw [List.getElem?_eq_getElem hq,hqe]
       have hn := numO_get hqg;refine ⟨fun i x h => ?_,fun i v h => ?_,fun x h => ?_⟩
       · rcases getElem?_snoc h with g | ⟨_,rfl⟩
         · exact h1 i x g
         · exact h1 q _ hn
       · rcases getElem?_snoc h with g | ⟨hi,g⟩
         · obtain ⟨j,hj,hg⟩ := h2 i v g;exact ⟨j,hj,keep hg⟩
         · rw [← g] at hn;obtain ⟨j,hj,hg⟩ := h2 q v hn;rw [numO_len] at hi;exact ⟨j,by omega,keep hg⟩
       · obtain ⟨i,hi⟩ := h3 x h;exact ⟨i,keep hi⟩
     · rw [if_neg hk,if_neg hk];refine ⟨fun i x h => ?_,fun i v h => ?_,fun x h => ?_⟩
       · rcases getElem?_snoc h with g | ⟨_,rfl⟩
         · have := h1 i x g; omega
         · omega
       · rcases getElem?_snoc h with g | ⟨hi,g⟩
         · obtain ⟨j,hj,hg⟩ := h2 i v g;exact ⟨j,hj,keep hg⟩
         · obtain ⟨j,hj⟩ := h3 v (by omega);exact ⟨j,by rw [hi]; exact (List.getElem?_eq_some_iff.1 hj).1,keep hj⟩
       · by_cases e : x < cntO l
         · obtain ⟨i,hi⟩ := h3 x e;exact ⟨i,keep hi⟩
         · obtain rfl : x = cntO l := by omega
           exact ⟨(numO l).length,by rw [List.getElem?_append_right (Nat.le_refl _),Nat.sub_self]; simp; omega⟩
theorem numO_ker {l : List (Option κ)} {i j : Nat} {x y : κ} (hx : l[i]? = some (some x)) (hy : l[j]? = some (some y)) : (numO l)[i]? = (numO l)[j]? ↔ x = y := by
 rw [numO_get hx,numO_get hy];constructor
 · intro h;have := Option.some.inj h;exact idxK_inj (mem_seen.2 (fm_mem hx)) (mem_seen.2 (fm_mem hy)) (by omega)
 · rintro rfl; rfl
end
theorem btrue {b : Bool} (h : ¬ b = false) : b = true := by cases b with
 | true => rfl
 | false => exact absurd rfl h
def Good (q : Au) (s : Int) : Prop := ∃ w,runV q.ed s w ∈ q.mr
def Res (q : Au) (s t : Int) : Prop := ∀ w,runV q.ed s w ∈ q.mr ↔ runV q.ed t w ∈ q.mr
def clsI (c : List Int) (x : Int) : Int := if 0 ≤ x then c.getD x.toNat 0 else 0
def keyC (q : Au) (c : List Int) (s : Nat) : Int × Bool × List Int := (c.getD s 0,decide ((s : Int) ∈ q.mr),q.al.map fun e => clsI c (nextV q.ed s e))
def keysC (q : Au) (gd : Nat → Bool) (c : List Int) : List (Option (Int × Bool × List Int)) := (List.range q.n.toNat).map fun s => if gd s then some (keyC q c s) else none
def nextC (q : Au) (gd : Nat → Bool) (c : List Int) : List Int := numO (keysC q gd c)
def cls0 (q : Au) (gd : Nat → Bool) : List Int := (List.range q.n.toNat).map fun (s : Nat) => if ((s : Nat) : Int) ∈ q.mr then 2 else if gd s then 1 else 0
def clsN (q : Au) (gd : Nat → Bool) : Nat → List Int
 | 0 => cls0 q gd
 | r + 1 => nextC q gd (clsN q gd r)
section
variable {q : Au} {gd : Nat → Bool}
theorem keysC_get (c : List Int) {s : Nat} (hs : s < q.n.toNat) : (keysC q gd c)[s]? = some (if gd s then some (keyC q c s) else none) := by
 unfold keysC
 rw [List.getElem?_map,List.getElem?_range hs];rfl
theorem clsN_len (r : Nat) : (clsN q gd r).length = q.n.toNat := by
 cases r with
 | zero => simp [clsN,cls0]
 | succ r => simp [clsN,nextC,numO_len,keysC]
structure Pre (q : Au) (gd : Nat → Bool) (c : List Int) : Prop where
 len : c.length = q.n.toNat
 z : ∀ s : Nat,s < q.n.toNat → (c.getD s 0 = 0 ↔ gd s = false)
 rs : ∀ s t : Nat,s < q.n.toNat → t < q.n.toNat → gd s = true → gd t = true → Res q s t → c.getD s 0 = c.getD t 0
theorem Res.next {s t : Int} (h : Res q s t) (hs : 0 ≤ s) (ht : 0 ≤ t) (e : Int) : Res q (nextV q.ed s e) (nextV q.ed t e) := fun w => by
 have := h (e :: w);simp only [runV,hs,ht,if_true] at this;exact this
theorem Res.good {s t : Int} (h : Res q s t) : Good q s ↔ Good q t := ⟨fun ⟨w,hw⟩ => ⟨w,(h w).1 hw⟩,fun ⟨w,hw⟩ => ⟨w,(h w).2 hw⟩⟩
theorem good_neg (hr : q.Right) {s : Int} (h : s < 0) : ¬ Good q s := fun ⟨w,hw⟩ => by
 rw [runV_neg _ h] at hw;have := (hr.mem hw).1;omega
theorem Pre.clsI_res (hr : q.Right) (hg : ∀ s : Nat,s < q.n.toNat → (gd s = true ↔ Good q s)) {c : List Int} (h : Pre q gd c) {x y : Int} (hx : x = -1 ∨ 0 ≤ x ∧ x < q.n) (hy : y = -1 ∨ 0 ≤ y ∧ y < q.n) (hxy : Res q x y) : clsI c x = clsI c y := by
 have bad : ∀ {x : Int},(x = -1 ∨ 0 ≤ x ∧ x < q.n) → ¬ Good q x → clsI c x = 0 := fun {x} hx hb => by
  rcases hx with rfl | hx
  · rfl
  · unfold clsI
    rw [if_pos hx.1];refine (h.z x.toNat (by omega)).2 ?_;refine Bool.eq_false_iff.2 fun g => hb ?_;have := (hg x.toNat (by omega)).1 g;rwa [Int.toNat_of_nonneg hx.1] at this
 by_cases hgx : Good q x
 · have hgy := hxy.good.1 hgx;rcases hx with rfl | hx
   · exact absurd hgx (good_neg hr (by omega))
   rcases hy with rfl | hy
   · exact absurd hgy (good_neg hr (by omega))
   unfold clsI
   rw [if_pos hx.1,if_pos hy.1];have e1 := Int.toNat_of_nonneg hx.1;have e2 := Int.toNat_of_nonneg hy.1;exact h.rs x.toNat y.toNat (by omega) (by omega) ((hg _ (by omega)).2 (by rw [e1]; exact hgx)) ((hg _ (by omega)).2 (by rw [e2]; exact hgy)) (by rw [e1,e2]; exact hxy)
 · rw [bad hx hgx,bad hy (fun g => hgx (hxy.good.2 g))]
theorem Pre.key (hr : q.Right) (hg : ∀ s : Nat,s < q.n.toNat → (gd s = true ↔ Good q s)) {c : List Int} (h : Pre q gd c) {s t : Nat} (hs : s < q.n.toNat) (ht : t < q.n.toNat) (gs : gd s = true) (gt : gd t = true) (hst : Res q s t) : keyC q c s = keyC q c t := by
 unfold keyC
 rw [h.rs s t hs ht gs gt hst];have hm : ((s : Int) ∈ q.mr) = ((t : Int) ∈ q.mr) := propext (hst []);simp only [hm];congr 2
 refine List.map_congr_left fun e _ => ?_;exact h.clsI_res hr hg (next_rg hr s e) (next_rg hr t e) (hst.next (by omega) (by omega) e)
where
 next_rg (hr : q.Right) (s e : Int) : nextV q.ed s e = -1 ∨ 0 ≤ nextV q.ed s e ∧ nextV q.ed s e < q.n := by
  rcases hr.next_cases s e with g | g
  · exact .inl g
  · exact .inr ⟨g.1,g.2.1⟩
theorem getD_of {l : List Int} {i : Nat} {x : Int} (h : l[i]? = some x) : l.getD i 0 = x := by rw [List.getD_eq_getElem?_getD,h]; rfl
theorem nextC_good (c : List Int) {s : Nat} (hs : s < q.n.toNat) (g : gd s = true) : (nextC q gd c)[s]? = some (1 + ((idxK (seenK [] ((keysC q gd c).filterMap id)) (keyC q c s) : Nat) : Int)) :=
 numO_get (by rw [keysC_get c hs,g]; rfl)
theorem nextC_bad (c : List Int) {s : Nat} (hs : s < q.n.toNat) (g : gd s = false) : (nextC q gd c)[s]? = some 0 :=
 numO_none (by rw [keysC_get c hs,g]; rfl)
theorem nextC_ker (c : List Int) {s t : Nat} (hs : s < q.n.toNat) (ht : t < q.n.toNat) (gs : gd s = true) (gt : gd t = true) : (nextC q gd c).getD s 0 = (nextC q gd c).getD t 0 ↔ keyC q c s = keyC q c t := by
 have h := numO_ker (l := keysC q gd c) (i := s) (j := t) (x := keyC q c s) (y := keyC q c t) (by rw [keysC_get c hs,gs]; rfl) (by rw [keysC_get c ht,gt]; rfl);rw [← h,getD_of (nextC_good c hs gs),getD_of (nextC_good c ht gt)];show _ ↔ (nextC q gd c)[s]? = (nextC q gd c)[t]?
 rw [nextC_good c hs gs,nextC_good c ht gt];exact ⟨fun h => by rw [h],fun h => Option.some.inj h⟩
theorem Pre.next (hr : q.Right) (hg : ∀ s : Nat,s < q.n.toNat → (gd s = true ↔ Good q s)) {c : List Int} (h : Pre q gd c) : Pre q gd (nextC q gd c) := by
 refine ⟨by simp [nextC,numO_len,keysC],fun s hs => ?_,fun s t hs ht gs gt hst => (nextC_ker c hs ht gs gt).2 (h.key hr hg hs ht gs gt hst)⟩;cases hgs : gd s with
 | false => rw [getD_of (nextC_bad c hs hgs)]; simp
 | true => rw [getD_of (nextC_good c hs hgs)]; simp; omega
theorem Pre.zero (hr : q.Right) (hg : ∀ s : Nat,s < q.n.toNat → (gd s = true ↔ Good q s)) : Pre q gd (cls0 q gd) := by
 have hget : ∀ s : Nat,s < q.n.toNat → (cls0 q gd).getD s 0 = if (s : Int) ∈ q.mr then 2 else if gd s then 1 else 0 := fun s hs => by
  refine getD_of ?_;unfold cls0
  rw [List.getElem?_map,List.getElem?_range hs];rfl
 have hm : ∀ s : Nat,s < q.n.toNat → (s : Int) ∈ q.mr → gd s = true := fun s hs h => (hg s hs).2 ⟨[],h⟩;refine ⟨by simp [cls0],fun s hs => ?_,fun s t hs ht gs gt hst => ?_⟩
 · rw [hget s hs];by_cases h : (s : Int) ∈ q.mr
   · rw [if_pos h,hm s hs h]; simp
   · rw [if_neg h];cases gd s <;> simp
 · rw [hget s hs,hget t ht,gs,gt];have e : ((s : Int) ∈ q.mr) = ((t : Int) ∈ q.mr) := propext (hst []);simp only [e]
theorem clsN_pre (hr : q.Right) (hg : ∀ s : Nat,s < q.n.toNat → (gd s = true ↔ Good q s)) : ∀ r,Pre q gd (clsN q gd r)
 | 0 => Pre.zero hr hg
 | r + 1 => (clsN_pre hr hg r).next hr hg
def Stb (q : Au) (gd : Nat → Bool) (c : List Int) : Prop := ∀ s t : Nat,s < q.n.toNat → t < q.n.toNat → gd s = true → gd t = true → c.getD s 0 = c.getD t 0 → keyC q c s = keyC q c t
theorem keyC_fst {c : List Int} {s t : Nat} (h : keyC q c s = keyC q c t) : c.getD s 0 = c.getD t 0 := (Prod.mk.inj h).1
theorem Stb.next (hr : q.Right) {c : List Int} (hp : Pre q gd c) (hp' : Pre q gd (nextC q gd c)) (h : Stb q gd c) : Stb q gd (nextC q gd c) := by
 intro s t hs ht gs gt e;have hk := (nextC_ker c hs ht gs gt).1 e;obtain ⟨_,k2⟩ := Prod.mk.inj hk;obtain ⟨k2,k3⟩ := Prod.mk.inj k2;unfold keyC
 rw [e,k2];congr 2
 refine List.map_congr_left fun ev hev => ?_;have h3 : clsI c (nextV q.ed s ev) = clsI c (nextV q.ed t ev) := List.map_inj_left.1 k3 ev hev;have same : ∀ x y : Int,(x = -1 ∨ 0 ≤ x ∧ x < q.n) → (y = -1 ∨ 0 ≤ y ∧ y < q.n) → clsI c x = clsI c y → clsI (nextC q gd c) x = clsI (nextC q gd c) y := fun x y hx hy hxy => by
  have zero : ∀ x : Int,(x = -1 ∨ 0 ≤ x ∧ x < q.n) → (clsI c x = 0 ↔ clsI (nextC q gd c) x = 0) := fun x hx => by
   rcases hx with rfl | hx
   · exact ⟨fun _ => rfl,fun _ => rfl⟩
   · unfold clsI
     rw [if_pos hx.1,if_pos hx.1,hp.z _ (by omega),hp'.z _ (by omega)]
  by_cases h0 : clsI c x = 0
  · rw [(zero x hx).1 h0,(zero y hy).1 (hxy ▸ h0)]
  · have h0y : ¬ clsI c y = 0 := hxy ▸ h0;rcases hx with rfl | hx
    · exact absurd rfl h0
    rcases hy with rfl | hy
    · exact absurd rfl h0y
    unfold clsI at h0 h0y hxy ⊢
    rw [if_pos hx.1] at h0 hxy ⊢;rw [if_pos hy.1] at h0y hxy ⊢;have gx : gd x.toNat = true := by cases hb : gd x.toNat with
     | true => rfl
     | false => exact absurd ((hp.z _ (by omega)).2 hb) h0
    have gy : gd y.toNat = true := by cases hb : gd y.toNat with
     | true => rfl
     | false => exact absurd ((hp.z _ (by omega)).2 hb) h0y
    exact (nextC_ker c (by omega) (by omega) gx gy).2 (h x.toNat y.toNat (by omega) (by omega) gx gy hxy)
 exact same _ _ (Pre.key.next_rg hr _ _) (Pre.key.next_rg hr _ _) h3
structure Mx (q : Au) (c : List Int) (m : Nat) : Prop where
 rg : ∀ s : Nat,s < q.n.toNat → 0 ≤ c.getD s 0 ∧ c.getD s 0 ≤ m
 su : ∀ x : Nat,x < m → ∃ s,s < q.n.toNat ∧ c.getD s 0 = (x : Int) + 1
 can : ∀ s v : Nat,s < q.n.toNat → c.getD s 0 = (v : Int) + 2 → ∃ j,j < s ∧ c.getD j 0 = (v : Int) + 1
theorem nextC_mx (c : List Int) : Mx q (nextC q gd c) (cntO (keysC q gd c)) := by
 obtain ⟨h1,h2,h3⟩ := numO_can (keysC q gd c);have hl : (nextC q gd c).length = q.n.toNat := by simp [nextC,numO_len,keysC]
 have at_ : ∀ s,s < q.n.toNat → (nextC q gd c)[s]? = some ((nextC q gd c).getD s 0) := fun s hs => by
  rw [List.getD_eq_getElem?_getD,List.getElem?_eq_getElem (by omega)]; rfl
 refine ⟨fun s hs => h1 s _ (at_ s hs),fun x hx => ?_,fun s v hs hv => ?_⟩
 · obtain ⟨i,hi⟩ := h3 x hx;have := (List.getElem?_eq_some_iff.1 hi).1;rw [show numO (keysC q gd c) = nextC q gd c from rfl,hl] at this;exact ⟨i,this,getD_of hi⟩
 · obtain ⟨j,hj,hg⟩ := h2 s v (by rw [← hv]; exact at_ s hs);exact ⟨j,hj,getD_of hg⟩
theorem stb_of_count {c : List Int} {m : Nat} (hz : ∀ s : Nat,s < q.n.toNat → (c.getD s 0 = 0 ↔ gd s = false)) (hm : Mx q c m) (hle : cntO (keysC q gd c) ≤ m) : Stb q gd c := by
 have hm' := nextC_mx (q := q) (gd := gd) c;have hz' : ∀ s : Nat,s < q.n.toNat → ((nextC q gd c).getD s 0 = 0 ↔ gd s = false) := fun s hs => by
  cases hgs : gd s with
  | false => rw [getD_of (nextC_bad c hs hgs)]; simp
  | true => rw [getD_of (nextC_good c hs hgs)]; simp; omega
 classical
 let f : Nat → Nat := fun y => if h : ∃ s,s < q.n.toNat ∧ (nextC q gd c).getD s 0 = (y : Int) + 1 then (c.getD h.choose 0).toNat - 1 else 0
 have good : ∀ s,s < q.n.toNat → c.getD s 0 ≠ 0 → gd s = true := fun s hs h => by
  cases hb : gd s with
  | true => rfl
  | false => exact absurd ((hz s hs).2 hb) h
 have fval : ∀ s,s < q.n.toNat → gd s = true → ∀ y : Nat,(nextC q gd c).getD s 0 = (y : Int) + 1 → (f y : Int) + 1 = c.getD s 0 := fun s hs gs y hy => by
  have hex : ∃ s,s < q.n.toNat ∧ (nextC q gd c).getD s 0 = (y : Int) + 1 := ⟨s,hs,hy⟩;have hc := hex.choose_spec;have gc : gd hex.choose = true := by
   cases hb : gd hex.choose with
   | true => rfl
   | false => have := (hz' _ hc.1).2 hb; omega
  have hk := (nextC_ker c hc.1 hs gc gs).1 (hc.2.trans hy.symm);have he := keyC_fst hk;have h0 := (hm.rg _ hc.1).1;have hne : c.getD hex.choose 0 ≠ 0 := fun h => by have := (hz _ hc.1).1 h; rw [gc] at this; cases this
  show ((if h : ∃ s,s < q.n.toNat ∧ (nextC q gd c).getD s 0 = (y : Int) + 1 then (c.getD h.choose 0).toNat - 1 else 0 : Nat) : Int) + 1 = _
  rw [dif_pos hex,← he];omega
 have sur : ∀ x,x < m → ∃ y,y < cntO (keysC q gd c) ∧ f y = x := fun x hx => by
  obtain ⟨s,hs,hsx⟩ := hm.su x hx;have gs := good s hs (by omega);have h1 := hm'.rg s hs;have hne : (nextC q gd c).getD s 0 ≠ 0 := fun h => by have := (hz' s hs).1 h; rw [gs] at this; cases this
  obtain ⟨y,hy⟩ : ∃ y : Nat,(nextC q gd c).getD s 0 = (y : Int) + 1 := ⟨((nextC q gd c).getD s 0).toNat - 1,by omega⟩;have := fval s hs gs y hy;exact ⟨y,by omega,by omega⟩
 obtain ⟨p1,p2⟩ := pigeon f m _ sur;have inj := p2 (by omega);intro s t hs ht gs gt e;have h1 := hm'.rg s hs;have h2 := hm'.rg t ht;have n1 : (nextC q gd c).getD s 0 ≠ 0 := fun h => by have := (hz' s hs).1 h; rw [gs] at this; cases this
 have n2 : (nextC q gd c).getD t 0 ≠ 0 := fun h => by have := (hz' t ht).1 h; rw [gt] at this; cases this
 obtain ⟨y,hy⟩ : ∃ y : Nat,(nextC q gd c).getD s 0 = (y : Int) + 1 := ⟨((nextC q gd c).getD s 0).toNat - 1,by omega⟩;obtain ⟨y',hy'⟩ : ∃ y : Nat,(nextC q gd c).getD t 0 = (y : Int) + 1 := ⟨((nextC q gd c).getD t 0).toNat - 1,by omega⟩;have f1 := fval s hs gs y hy;have f2 := fval t ht gt y' hy';have := inj y y' (by omega) (by omega) (by omega);exact (nextC_ker c hs ht gs gt).1 (by rw [hy,hy',this])
theorem clsN_stb (hr : q.Right) (hg : ∀ s : Nat,s < q.n.toNat → (gd s = true ↔ Good q s)) : ∀ r : Nat,Stb q gd (clsN q gd (r + 1)) ∨ r + 1 ≤ cntO (keysC q gd (clsN q gd r))
 | 0 => by
   by_cases h : cntO (keysC q gd (clsN q gd 0)) = 0
   · refine .inl fun s t hs ht gs _ _ => ?_;have h1 := (nextC_mx (q := q) (gd := gd) (clsN q gd 0)).rg s hs;have := getD_of (nextC_good (clsN q gd 0) hs gs);omega
   · exact .inr (by omega)
 | r + 1 => by
   have pn := clsN_pre hr hg (r + 1);have pn' := clsN_pre hr hg (r + 2);have st : Stb q gd (clsN q gd (r + 1)) → Stb q gd (clsN q gd (r + 2)) := fun h => Stb.next hr pn pn' h;rcases clsN_stb hr hg r with h | h
   · exact .inl (st h)
   · by_cases hle : cntO (keysC q gd (clsN q gd (r + 1))) ≤ cntO (keysC q gd (clsN q gd r))
     · exact .inl (st (stb_of_count pn.z (nextC_mx _) hle))
     · exact .inr (by omega)
theorem clsN_fin (hr : q.Right) (hg : ∀ s : Nat,s < q.n.toNat → (gd s = true ↔ Good q s)) (hn : 0 < q.n) : Stb q gd (clsN q gd q.n.toNat) ∧ ∃ m,Mx q (clsN q gd q.n.toNat) m := by
 obtain ⟨r,hrn⟩ : ∃ r,q.n.toNat = r + 1 := ⟨q.n.toNat - 1,by omega⟩;rw [hrn];refine ⟨?_,_,nextC_mx _⟩;rcases clsN_stb hr hg r with h | h
 · exact h
 · have hm := nextC_mx (q := q) (gd := gd) (clsN q gd r);have hz := (clsN_pre hr hg (r + 1)).z;obtain ⟨p1,p2⟩ := pigeon (fun s => ((clsN q gd (r + 1)).getD s 0).toNat - 1) (cntO (keysC q gd (clsN q gd r))) q.n.toNat (fun x hx => by
    obtain ⟨s,hs,hsx⟩ := hm.su x hx;exact ⟨s,hs,by show ((nextC q gd (clsN q gd r)).getD s 0).toNat - 1 = x; omega⟩)
   have inj := p2 (by omega);intro s t hs ht gs gt e;rw [inj s t hs ht (by simp only [e])]
theorem Stb.res (hr : q.Right) (hg : ∀ s : Nat,s < q.n.toNat → (gd s = true ↔ Good q s)) {c : List Int} (hp : Pre q gd c) (h : Stb q gd c) : ∀ (w : List Int) (x y : Int),(x = -1 ∨ 0 ≤ x ∧ x < q.n) → (y = -1 ∨ 0 ≤ y ∧ y < q.n) → clsI c x = clsI c y → (runV q.ed x w ∈ q.mr ↔ runV q.ed y w ∈ q.mr) := by
 have bad : ∀ x : Int,(x = -1 ∨ 0 ≤ x ∧ x < q.n) → clsI c x = 0 → ¬ Good q x := fun x hx h0 => by
  rcases hx with rfl | hx
  · exact good_neg hr (by omega)
  · unfold clsI at h0
    rw [if_pos hx.1] at h0;intro g;have := (hg x.toNat (by omega)).2 (by rw [Int.toNat_of_nonneg hx.1]; exact g);have h2 := (hp.z _ (by omega)).1 h0;rw [this] at h2;cases h2
 intro w;induction w with
 | nil =>
   intro x y hx hy hxy;by_cases h0 : clsI c x = 0
   · exact ⟨fun g => absurd ⟨[],g⟩ (bad x hx h0),fun g => absurd ⟨[],g⟩ (bad y hy (hxy ▸ h0))⟩
   · have h0y : ¬ clsI c y = 0 := hxy ▸ h0;rcases hx with rfl | hx
     · exact absurd rfl h0
     rcases hy with rfl | hy
     · exact absurd rfl h0y
     unfold clsI at h0 h0y hxy
     rw [if_pos hx.1] at h0 hxy;rw [if_pos hy.1] at h0y hxy;have gx : gd x.toNat = true := btrue fun hb => h0 ((hp.z _ (by omega)).2 hb);have gy : gd y.toNat = true := btrue fun hb => h0y ((hp.z _ (by omega)).2 hb);have hk := h x.toNat y.toNat (by omega) (by omega) gx gy hxy;have := (Prod.mk.inj (Prod.mk.inj hk).2).1;rw [Int.toNat_of_nonneg hx.1,Int.toNat_of_nonneg hy.1] at this;simpa [runV] using this
 | cons e w ih =>
   intro x y hx hy hxy;by_cases h0 : clsI c x = 0
   · exact ⟨fun g => absurd ⟨_,g⟩ (bad x hx h0),fun g => absurd ⟨_,g⟩ (bad y hy (hxy ▸ h0))⟩
   · have h0y : ¬ clsI c y = 0 := hxy ▸ h0;rcases hx with rfl | hx
     · exact absurd rfl h0
     rcases hy with rfl | hy
     · exact absurd rfl h0y
     rw [runV,if_pos hx.1,runV,if_pos hy.1];refine ih _ _ (Pre.key.next_rg hr _ _) (Pre.key.next_rg hr _ _) ?_;by_cases he : e ∈ q.al
     · unfold clsI at h0 h0y hxy
       rw [if_pos hx.1] at h0 hxy;rw [if_pos hy.1] at h0y hxy;have gx : gd x.toNat = true := btrue fun hb => h0 ((hp.z _ (by omega)).2 hb);have gy : gd y.toNat = true := btrue fun hb => h0y ((hp.z _ (by omega)).2 hb);have hk := h x.toNat y.toNat (by omega) (by omega) gx gy hxy;have h3 := (Prod.mk.inj (Prod.mk.inj hk).2).2;rw [Int.toNat_of_nonneg hx.1,Int.toNat_of_nonneg hy.1] at h3;exact List.map_inj_left.1 h3 e he
     · rw [hr.next_out he,hr.next_out he]
end
end
end Go.Proofs.YtkifgffhoenaoaaGreatDoor
