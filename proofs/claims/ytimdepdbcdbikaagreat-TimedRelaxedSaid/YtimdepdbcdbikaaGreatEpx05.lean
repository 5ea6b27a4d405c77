/-
  What the row leans on.
-/
import Derived.Test.YtimdepdbcdbikaaGreatEpx04
import Derived.Test.YtimdepdbcdbikaaGreatBas18
import Derived.BigQuiet
import Derived.Deep.MidRow
import Derived.Test.YtimdepdbcdbikaaGreatBas04
import Derived.Test.YtimdepdbcdbikaaGreatBas03
import Derived.Test.YtimdepdbcdbikaaGreatBas05
import Derived.Test.YtimdepdbcdbikaaGreatEpx03
import Derived.Test.YtimdepdbcdbikaaGreatBas20
import Derived.Test.YtimdepdbcdbikaaGreatBas21
import Derived.Deep.CutBlock
import Derived.Deep.DeepCutAuto
import Derived.Test.YtimdepdbcdbikaaGreatEpx01
set_option linter.unusedSimpArgs false
set_option linter.unusedVariables false
namespace Go.Proofs.YtimdepdbcdbikaaGreat
open Go.RowKit
set_option maxRecDepth 100000
theorem lens_rt {a : Au} (h : a.Right) : a.al.length ≤ 140737488355328 ∧ a.mr.length ≤ 140737488355328 ∧ a.ed.length ≤ 140737488355328 := by
 have h1 := rises_len (n := 32) (l := a.al) h.al.incr (fun x hx => by
  obtain ⟨i,hi,rfl⟩ := List.mem_iff_getElem.1 hx;have := h.al i _ hi (List.getElem?_eq_getElem hi);exact ⟨this.1,this.2.1⟩)
 have h2 := rises_len (n := 4096) (l := a.mr) h.mr.incr (fun x hx => by
  obtain ⟨i,hi,rfl⟩ := List.mem_iff_getElem.1 hx;have := h.mr i _ hi (List.getElem?_eq_getElem hi);have := h.n1;omega)
 have h3 := ed_len h;omega
def GivesUn (m : Md) (w : World) (e : Ending) (w' : World) : Prop := ∃ (u : Au) (p : AuP),e = .returned (.tuple #[u.val p,.int .i64 0]) ∧ (SepW w (eAu u p) w') ∧ Hid (u.Right ∧ 0 < u.n ∧ ∀ wd,(0 ≤ rn u wd ↔ 0 ≤ rn m.a wd) ∧ (rn u wd ∈ u.mr ↔ rn m.a wd ∈ m.a.mr))
set_option maxHeartbeats 8000000 in
theorem untimed_c (m mm : Md) (hmm : mm = m.rlx) (P : MdP) (w : World) (hm : m.Ok) (hA : Md.At w mm P) (hn : 0 < m.a.n) (h126 : m.a.n ≤ 126) (hf : Few m) (hc : mm.a.al.length ≤ P.p.c1) :
 Calls Tryz.prog 9 #[.agg (mm.cells P).toArray] w (GivesUn m w) := by
 have HA := Lib.hid hA;have HM : Hid mm.Ok := by rw [Hid,hmm]; exact hm.rlx
 have HN : Hid (0 < mm.a.n) := by rw [Hid,hmm]; exact hn
 have HF : Hid (Few mm) := by rw [Hid,hmm]; exact Few.rlx hf hm
 have HC := Lib.hid hc;have HP : Hid (∀ fs ed,Ufd mm fs ed → fs.length ≤ 4000 → PjOk m (tAu mm fs ed) mm.a.al) := fun fs ed h1 h2 => by
  subst hmm; exact PjOk.of hm hn h126 h1 h2
 have hal : mm.a.al.length ≤ 32 := rises_len (n := 32) HM.out.a.al.incr fun x hx => al_rg HM.out.a hx;clear hA hm hn hf hc hmm;dsimp only [Md.cells] at *;go_enter Tryz.func9,Tryz.ntmps9
 obtain ⟨mb,hmb⟩ : ∃ g,g = w.heap.size := ⟨_,rfl⟩;obtain ⟨rb,hrb⟩ : ∃ g,g = mb + 1 := ⟨_,rfl⟩;go_upto_region 1 with fail
 rw [← hmb];rw [← hrb];refine wp_world (fun W => Sep w.heap.size w [eBlk rb 34 [.slice none 0 0,.int .i64 0,.slice none 0 0,.slice none 0 0],eBlk mb 37 [.slice P.p.A1 mm.a.al.length P.p.c1,.int .i64 mm.a.n,.slice P.p.A2 mm.a.mr.length P.p.c2,.slice P.p.A3 mm.a.ed.length P.p.c3,.slice P.B mm.ac.length P.d,.int .i64 mm.tk]] W) (((Sep.here w).alloc' _ [_,_,_,_,_,_] rfl hmb).alloc' _ [_,_,_,_] rfl (by simp; omega)) fun W S => ?_;have S0 := Lib.hid S;clear S hmb hrb;have b0 := BlkAt.cell (S0.out.get 1 rfl) 0; have b1 := BlkAt.cell (S0.out.get 1 rfl) 1; have b2 := BlkAt.cell (S0.out.get 1 rfl) 2; have b3 := BlkAt.cell (S0.out.get 1 rfl) 3; have b4 := BlkAt.cell (S0.out.get 1 rfl) 4; have b5 := BlkAt.cell (S0.out.get 1 rfl) 5; simp only [List.getElem?_cons_succ,List.getElem?_cons_zero] at b0 b1 b2 b3 b4 b5;have CT := Lib.hid (timed_c mm P W HM.out (HA.out.below S0.out.below) HN.out HF.out HC.out);dsimp only [Md.cells] at CT;go_wp2_with fail
 refine CT.out.mono ?_;rintro e w2 ⟨fs,ed,q,AS,cS,l,rfl,T,hfs,HU,HL⟩;have HPJ := Lib.hid (HP.out fs ed HU.out HL.out);obtain ⟨t,ht⟩ : ∃ t,t = tAu mm fs ed := ⟨_,rfl⟩;rw [← ht] at HPJ T ⊢;dsimp only [Au.val];have S1 := qkN S0.out T.out;clear CT T S0 b0 b1 b2 b3 b4 b5 ht hfs HU HL HP;obtain ⟨ab,hab⟩ : ∃ g,g = w2.heap.size := ⟨_,rfl⟩;go_upto_region 2 with fail
 rw [← hab];refine wp_world (fun V => Sep w.heap.size w [eBlk ab 34 [.slice q.A1 t.al.length q.c1,.int .i64 t.n,.slice q.A2 t.mr.length q.c2,.slice q.A3 t.ed.length q.c3],eInts t.al (.slice q.A1 t.al.length q.c1),eInts t.mr (.slice q.A2 t.mr.length q.c2),eEds t.ed (.slice q.A3 t.ed.length q.c3),eSts l (.slice AS l.length cS),eTm l,eBlk rb 34 [.slice none 0 0,.int .i64 0,.slice none 0 0,.slice none 0 0],eBlk mb 37 [.slice P.p.A1 mm.a.al.length P.p.c1,.int .i64 mm.a.n,.slice P.p.A2 mm.a.mr.length P.p.c2,.slice P.p.A3 mm.a.ed.length P.p.c3,.slice P.B mm.ac.length P.d,.int .i64 mm.tk]] V) (S1.out.alloc' _ [_,_,_,_] rfl hab) fun V S => ?_;have S2 := Lib.hid S;clear S S1 hab;have a0 := BlkAt.cell (S2.out.get 0 rfl) 0; have a1 := BlkAt.cell (S2.out.get 0 rfl) 1; have a2 := BlkAt.cell (S2.out.get 0 rfl) 2; have a3 := BlkAt.cell (S2.out.get 0 rfl) 3; simp only [List.getElem?_cons_succ,List.getElem?_cons_zero] at a0 a1 a2 a3;have b0 := BlkAt.cell (S2.out.get 7 rfl) 0; simp only [List.getElem?_cons_succ,List.getElem?_cons_zero] at b0;have LN := Lib.hid (lens_rt HPJ.out.rt);have CP := Lib.hid (project_c (OneE t.n) t q P.p.A1 P.p.c1 mm.a.al V HPJ.out.rt ⟨S2.out.ints 1 rfl,S2.out.ints 2 rfl,S2.out.eds 3 rfl,LN.out.1,LN.out.2.1,LN.out.2.2⟩ (HA.out.below S2.out.below).a.al HPJ.out.alo HPJ.out.n0 HPJ.out.n1 HPJ.out.el HPJ.out.ok HPJ.out.one HPJ.out.few);go_wp2_with fail
 refine CP.out.mono ?_;rintro e w3 ⟨gs,ed2,p2,AR,cR,fx,raw,vs,rfl,HU2,HL2,_,T⟩;have HOU := Lib.hid (HPJ.out.out gs ed2 HU2.out HL2.out);obtain ⟨u,hu⟩ : ∃ u,u = gAu (prS (OneE t.n) t mm.a.al) (mkdP t.mr) gs ed2 := ⟨_,rfl⟩;rw [← hu] at HOU T ⊢;dsimp only [Au.val];have S3 := qkN S2.out T.out;clear CP T S2 a0 a1 a2 a3 b0 hu HU2 HL2 LN;obtain ⟨ub,hub⟩ : ∃ g,g = w3.heap.size := ⟨_,rfl⟩;go_upto_region 5 with fail
 rw [← hub];refine wp_world (fun V => Sep w.heap.size w [eBlk ub 34 [.slice p2.A1 u.al.length p2.c1,.int .i64 u.n,.slice p2.A2 u.mr.length p2.c2,.slice p2.A3 u.ed.length p2.c3],eInts u.al (.slice p2.A1 u.al.length p2.c1),eInts u.mr (.slice p2.A2 u.mr.length p2.c2),eEds u.ed (.slice p2.A3 u.ed.length p2.c3),eBlk rb 34 [.slice none 0 0,.int .i64 0,.slice none 0 0,.slice none 0 0]] V) ((S3.out.alloc' 34 [.slice p2.A1 u.al.length p2.c1,.int .i64 u.n,.slice p2.A2 u.mr.length p2.c2,.slice p2.A3 u.ed.length p2.c3] rfl hub).pick [0,1,2,3,12] (by decide)) fun V S => ?_;have S4 := Lib.hid S;clear S S3 hub;have o0 := BlkAt.cell (S4.out.get 0 rfl) 0; have o1 := BlkAt.cell (S4.out.get 0 rfl) 1; have o2 := BlkAt.cell (S4.out.get 0 rfl) 2; have o3 := BlkAt.cell (S4.out.get 0 rfl) 3; simp only [List.getElem?_cons_succ,List.getElem?_cons_zero] at o0 o1 o2 o3;have r0 := BlkAt.cell (S4.out.get 4 rfl) 0; have r1 := BlkAt.cell (S4.out.get 4 rfl) 1; have r2 := BlkAt.cell (S4.out.get 4 rfl) 2; have r3 := BlkAt.cell (S4.out.get 4 rfl) 3; simp only [List.getElem?_cons_succ,List.getElem?_cons_zero] at r0 r1 r2 r3;have f0 := BlkAt.free (S4.out.get 4 rfl) 0;have f1 := BlkAt.free (S4.out.get 4 rfl) 1;have f2 := BlkAt.free (S4.out.get 4 rfl) 2;have f3 := BlkAt.free (S4.out.get 4 rfl) 3
 have S5 : (SepW w [eBlk ub 34 [.slice p2.A1 u.al.length p2.c1,.int .i64 u.n,.slice p2.A2 u.mr.length p2.c2,.slice p2.A3 u.ed.length p2.c3],eInts u.al (.slice p2.A1 u.al.length p2.c1),eInts u.mr (.slice p2.A2 u.mr.length p2.c2),eEds u.ed (.slice p2.A3 u.ed.length p2.c3),eBlk rb 34 [.slice p2.A1 u.al.length p2.c1,.int .i64 u.n,.slice p2.A2 u.mr.length p2.c2,.slice p2.A3 u.ed.length p2.c3]] ((((V.setCell ⟨rb,0,none⟩ (.slice p2.A1 u.al.length p2.c1)).setCell ⟨rb,1,none⟩ (.int .i64 u.n)).setCell ⟨rb,2,none⟩ (.slice p2.A2 u.mr.length p2.c2)).setCell ⟨rb,3,none⟩ (.slice p2.A3 u.ed.length p2.c3))) := (((S4.out.set 4 rfl 0 _).set 4 rfl 1 _).set 4 rfl 2 _).set 4 rfl 3 _;have q0 := BlkAt.cell (S5.out.get 4 rfl) 0; have q1 := BlkAt.cell (S5.out.get 4 rfl) 1; have q2 := BlkAt.cell (S5.out.get 4 rfl) 2; have q3 := BlkAt.cell (S5.out.get 4 rfl) 3; simp only [List.getElem?_cons_succ,List.getElem?_cons_zero] at q0 q1 q2 q3;clear S4;go_wp2_with fail
 refine bodyPost_ret (v := .tuple #[.agg #[.slice p2.A1 u.al.length p2.c1,.int .i64 u.n,.slice p2.A2 u.mr.length p2.c2,.slice p2.A3 u.ed.length p2.c3],.int .i64 0]) (by simp [results,Tryz.results9,go_sem, *]) rfl ?_;exact ⟨u,p2,rfl,S5.out.pick [1,2,3] (by decide),HOU.out⟩
theorem out1_c (x : Ed) (s : Int) (w : World) (h0 : -1000000 ≤ x.src) (h1 : x.src ≤ 1000000) (h2 : -1000000 ≤ s) (h3 : s ≤ 1000000) :
 Calls Tryz.prog 123 #[.agg #[.int .i64 x.src,.int .i64 x.ev,.int .i64 x.dst],.int .i64 s] w (Ret (.int .i64 (x.src - s)) w) := by
 have hw : IntKind.i64.wrap (x.src - s) = x.src - s := IntWalk.i64_in _ (by omega);have B := Lib.hid (Below.new w (.cells #[.int .i64 x.src,.int .i64 x.ev,.int .i64 x.dst] 76));have q0 : (w.alloc (.cells #[.int .i64 x.src,.int .i64 x.ev,.int .i64 x.dst] 76)).cell? ⟨w.heap.size,0,none⟩ = some (.int .i64 x.src) := new_cell w _ [_,_,_] _ 0 rfl;go_enter Tryz.func123,Tryz.ntmps123
 go_wp2
 go_ret
 exact ⟨rfl,B.out⟩
theorem out2_c (x : Ed) (s : Int) (w : World) (h0 : -1000000 ≤ x.src) (h1 : x.src ≤ 1000000) (h2 : -1000000 ≤ s) (h3 : s ≤ 1000000) :
 Calls Tryz.prog 124 #[.agg #[.int .i64 x.src,.int .i64 x.ev,.int .i64 x.dst],.int .i64 s] w (Ret (.int .i64 (x.src - s)) w) := by
 have hw : IntKind.i64.wrap (x.src - s) = x.src - s := IntWalk.i64_in _ (by omega);have B := Lib.hid (Below.new w (.cells #[.int .i64 x.src,.int .i64 x.ev,.int .i64 x.dst] 76));have q0 : (w.alloc (.cells #[.int .i64 x.src,.int .i64 x.ev,.int .i64 x.dst] 76)).cell? ⟨w.heap.size,0,none⟩ = some (.int .i64 x.src) := new_cell w _ [_,_,_] _ 0 rfl;go_enter Tryz.func124,Tryz.ntmps124
 go_wp2
 go_ret
 exact ⟨rfl,B.out⟩
def DistF (F : FuncId) : Prop := ∀ (x : Ed) (s : Int) (w : World),-1000000 ≤ x.src → x.src ≤ 1000000 → -1000000 ≤ s → s ≤ 1000000 → Calls Tryz.prog F #[.agg #[.int .i64 x.src,.int .i64 x.ev,.int .i64 x.dst],.int .i64 s] w (Ret (.int .i64 (x.src - s)) w)
def FindsE (l : List Ed) (s : Int) (w : World) (e : Ending) (w' : World) : Prop := ∃ (p : Nat) (r : Bool),e = .returned (.tuple #[.int .i64 ↑p,.bool r]) ∧ p ≤ l.length ∧ Hid ((∀ t y,t < p → l[t]? = some y → y.src < s) ∧ (∀ t y,p ≤ t → l[t]? = some y → s ≤ y.src)) ∧ Below w.heap.size w w'
set_option maxHeartbeats 2000000 in
theorem bsf_c (A : Option Addr) (c : Nat) (l : List Ed) (s : Int) (F : FuncId) (w : World) (h : EdsAt w A l) (hl : l.length ≤ 1000000) (hs : SrcUp l) (hr : ∀ x,x ∈ l → -1000000 ≤ x.src ∧ x.src ≤ 1000000) (h2 : -1000000 ≤ s) (h3 : s ≤ 1000000) (hF : DistF F) (ec : ∀ args w,(callFunc F args).run Tryz.prog w = .ok (.enter F args) w) :
 Calls Tryz.prog 122 #[.slice A l.length c,.int .i64 s,.func (.func F) #[] #[]] w (FindsE l s w) := by
 have H := Lib.hid h;have HF := Lib.hid hF;have HS : Hid (∀ (i j : Nat) x y,i ≤ j → l[i]? = some x → l[j]? = some y → x.src ≤ y.src) := fun i j x y hij hx hy => by
  rcases Nat.lt_or_eq_of_le hij with e | e
  · obtain ⟨hi,rfl⟩ := List.getElem?_eq_some_iff.1 hx;obtain ⟨hj,rfl⟩ := List.getElem?_eq_some_iff.1 hy;exact List.pairwise_iff_getElem.1 hs i j hi hj e
  · subst e; rw [hx] at hy; cases hy; exact Int.le_refl _
 have HRG := Lib.hid hr;clear h hF hs hr;go_enter Tryz.func122,Tryz.ntmps122
 go_wp2_with fail
 go_loopw [9,10,11] (fun a b _ wr => ∃ lo hi : Nat,a = .int .i64 ↑lo ∧ b = .int .i64 ↑hi ∧ lo ≤ hi ∧ hi ≤ l.length ∧ Hid ((∀ t y,t < lo → l[t]? = some y → y.src < s) ∧ (∀ t y,hi ≤ t → l[t]? = some y → s ≤ y.src)) ∧ Hid (Fro w.heap.size w wr)) (fun a b _ _ => (intOf b).toNat - (intOf a).toNat)
 case atStart => exact ⟨0,l.length,rfl,rfl,Nat.zero_le _,Nat.le_refl _,⟨fun t y ht => absurd ht (Nat.not_lt_zero _),fun t y h1 h2 => by have := (List.getElem?_eq_some_iff.1 h2).1; omega⟩,Fro.here w⟩
 case round =>
  obtain ⟨lo,hi,rfl,rfl,hlh,hin,HB,W0⟩ := hrel;by_cases hlt : lo < hi
  · obtain ⟨md,hmd⟩ : ∃ md,md = (lo + hi) / 2 := ⟨_,rfl⟩;obtain ⟨b,off,x,rfl,hb,hx,e0,e1,e2⟩ := EdsAt.at (H.out.below EdE.stays W0.out.b) (k := (lo + hi) / 2) (by omega);have hxr := HRG.out x (List.mem_of_getElem? hx);have HX := Lib.hid hx;have HC := Lib.hid (HF.out x s wr hxr.1 hxr.2 h2 h3);clear hx;go_wp2_with fail
    refine HC.out.mono ?_;rintro e w2 ⟨rfl,hb2⟩;have W1 := Lib.hid (W0.out.next hb2);clear hb2 HC e0 e1 e2 W0;by_cases hyx : x.src < s
    · have hd : decide (x.src - s < 0) = true := by simp; omega
      go_wp2
      go_roundw
      case rel =>
       refine ⟨(lo + hi) / 2 + 1,hi,by go_num,rfl,by omega,hin,⟨fun t z ht hz => ?_,HB.out.2⟩,W1.out⟩;by_cases e : t = (lo + hi) / 2
       · subst e; rw [HX.out] at hz; cases hz; exact hyx
       · have := HS.out t _ z x (by omega) hz HX.out; omega
      case measure => simp [intOf]; omega
    · have hd : decide (x.src - s < 0) = false := by simp; omega
      go_wp2
      go_roundw
      case rel =>
       refine ⟨lo,(lo + hi) / 2,rfl,by go_num,by omega,by omega,⟨HB.out.1,fun t z ht hz => ?_⟩,W1.out⟩;by_cases e : t = (lo + hi) / 2
       · subst e; rw [HX.out] at hz; cases hz; omega
       · have := HS.out _ t x z (by omega) HX.out hz; omega
      case measure => simp [intOf]; omega
  · obtain rfl : lo = hi := by omega
    by_cases hlo : lo < l.length
    · obtain ⟨b,off,x,rfl,hb,hx,e0,e1,e2⟩ := EdsAt.at (H.out.below EdE.stays W0.out.b) hlo;have hxr := HRG.out x (List.mem_of_getElem? hx);have HC := Lib.hid (HF.out x s wr hxr.1 hxr.2 h2 h3);have hlo2 : decide ((lo : Int) < (l.length : Int)) = true := by simp; omega
      clear hx;go_wp2_with fail
      refine HC.out.mono ?_;rintro e w2 ⟨rfl,hb2⟩;have W1 := Lib.hid (W0.out.next hb2);clear hb2 HC e0 e1 e2 W0;go_wp2_with fail
      refine bodyPost_ret (v := .tuple #[.int .i64 ↑lo,.bool (x.src - s == 0)]) (by simp [results,Tryz.results122,go_sem]) rfl ?_;exact ⟨lo,_,rfl,hin,HB.out,W1.out.b⟩
    · have hlo2 : decide ((lo : Int) < (l.length : Int)) = false := by simp; omega
      go_wp2_with fail
      refine bodyPost_ret (v := .tuple #[.int .i64 ↑lo,.bool false]) (by simp [results,Tryz.results122,go_sem]) rfl ?_;exact ⟨lo,false,rfl,hin,HB.out,W0.out.b⟩
theorem part_at {l : List Ed} {s : Int} {p : Nat} (hp : p ≤ l.length) (h : (∀ t y,t < p → l[t]? = some y → y.src < s) ∧ (∀ t y,p ≤ t → l[t]? = some y → s ≤ y.src)) : p = (l.filter fun x => decide (x.src < s)).length := by
 have e : l = l.take p ++ l.drop p := (List.take_append_drop p l).symm;have e1 : (l.take p).filter (fun x => decide (x.src < s)) = l.take p := List.filter_eq_self.2 fun x hx => by
  obtain ⟨t,ht,rfl⟩ := List.mem_iff_getElem.1 hx;have ht2 : t < p := by rw [List.length_take] at ht; omega
  rw [decide_eq_true_eq];exact h.1 t _ ht2 (by rw [List.getElem_take,List.getElem?_eq_getElem])
 have e2 : (l.drop p).filter (fun x => decide (x.src < s)) = [] := List.filter_eq_nil_iff.2 fun x hx => by
  obtain ⟨t,ht,rfl⟩ := List.mem_iff_getElem.1 hx;have := h.2 (p + t) (l.drop p)[t] (by omega) (by rw [List.getElem_drop,List.getElem?_eq_getElem]);rw [decide_eq_true_eq]; omega
 have e3 : l.filter (fun x => decide (x.src < s)) = l.take p := by
  conv => lhs; rw [e]
  rw [List.filter_append,e1,e2,List.append_nil]
 rw [e3,List.length_take];omega
def GivesOut (a : Au) (s : Nat) (w0 w : World) (e : Ending) (w' : World) : Prop := ∃ A c,e = .returned (.slice A (outOf a.ed s).length c) ∧ Hid (EdsAt w0 A (outOf a.ed s)) ∧ Below w.heap.size w w'
set_option maxHeartbeats 2000000 in
theorem out_c (a : Au) (p : AuP) (s : Nat) (w0 w : World) (hr : a.Right) (hA : EdsAt w0 p.A3 a.ed) (hb0 : Below w0.heap.size w0 w) (hc : a.ed.length ≤ p.c3) (hs : s ≤ 4096) :
 Calls Tryz.prog 114 #[a.val p,.int .i64 ↑s] w (GivesOut a s w0 w) := by
 have HR := Lib.hid hr;have HA := Lib.hid hA;have HA1 := Lib.hid (hA.below EdE.stays hb0);have hle := ed_len hr;have HU := Lib.hid hr.srcUp;have HG : Hid (∀ x,x ∈ a.ed → -1000000 ≤ x.src ∧ x.src ≤ 1000000) := fun x hx => by
  obtain ⟨q,hq,hqx⟩ := List.mem_iff_getElem.1 hx;have h := hr.edge (p := q) (by rw [List.getElem?_eq_getElem hq,hqx]);have := hr.n1;omega
 have HO : Hid (outOf a.ed s = (a.ed.take (fstV a.ed (s + 1))).drop (fstV a.ed s)) := outOf_range hr.srcUp s;have hm := fstV_mono a.ed s;have ht := fstV_le a.ed (s + 1);obtain ⟨al,n,mr,ed⟩ := a;obtain ⟨A1,c1,A2,c2,A3,c3⟩ := p;dsimp only [Au.val,GivesOut] at *;clear hr hA hb0;have hw1 : IntKind.i64.wrap ((s : Int) + 1) = (s : Int) + 1 := IntWalk.i64_in _ (by omega);go_enter Tryz.func114,Tryz.ntmps114
 go_upto_region 1 with fail
 refine wp_world (fun W => Sep w.heap.size w [eBlk w.heap.size 34 [.slice A1 al.length c1,.int .i64 n,.slice A2 mr.length c2,.slice A3 ed.length c3]] W) ?_ fun W S => ?_
 · exact (Sep.here w).alloc' _ [_,_,_,_] rfl rfl
 have S0 := Lib.hid S;clear S;have a3 := qkC S0.out 0 rfl 3 rfl;go_wp2_with fail
 refine (bsf_c A3 c3 ed (s : Int) 123 W (HA1.out.below EdE.stays S0.out.below) (by omega) HU.out HG.out (by omega) (by omega) (fun x s w h0 h1 h2 h3 => out1_c x s w h0 h1 h2 h3) (fun _ _ => rfl)).mono ?_;rintro e w1 ⟨k,r1,rfl,hk,hkk,hb⟩;obtain rfl : k = fstV ed s := part_at hk hkk.out;have S1 := Lib.hid (S0.out.next hb);clear hb S0 hkk a3;have a3 := qkC S1.out 0 rfl 3 rfl;go_wp2_with fail
 refine (bsf_c A3 c3 ed ((s : Int) + 1) 124 w1 (HA1.out.below EdE.stays S1.out.below) (by omega) HU.out HG.out (by omega) (by omega) (fun x s w h0 h1 h2 h3 => out2_c x s w h0 h1 h2 h3) (fun _ _ => rfl)).mono ?_;rintro e w2 ⟨m,r2,rfl,hk2,hkk,hb⟩;obtain rfl : m = fstV ed (s + 1) := part_at hk2 hkk.out;have S2 := Lib.hid (S1.out.next hb);clear hb S1 hkk a3;have a3 := qkC S2.out 0 rfl 3 rfl;have HA2 := HA;obtain ⟨f0,hf0⟩ : ∃ f0,f0 = fstV ed s := ⟨_,rfl⟩;obtain ⟨f1,hf1⟩ : ∃ f1,f1 = fstV ed (s + 1) := ⟨_,rfl⟩;rw [← hf0,← hf1] at HO hm;rw [← hf1] at ht;rw [← hf0,← hf1];have hsz : (outOf ed s).length = f1 - f0 := by rw [HO.out,List.length_drop,List.length_take]; omega
 clear hf0 hf1 hk hk2 HU HG HR HA HA1;have B2 := Lib.hid S2.out.below;by_cases hne : 0 < ed.length
 · obtain ⟨b,off,x,hAe,hb,_⟩ := EdsAt.at HA2.out hne;subst hAe;have HNIL : Hid (f0 = f1 → ∀ A',EdsAt w0 A' (outOf ed s)) := fun e A' => by
    have : outOf ed s = [] := List.length_eq_zero_iff.1 (by omega);rw [this]; exact fun h => absurd rfl h
   go_wp2_with fail
   · go_ret
     exact ⟨_,_,by rw [hsz]; rfl,HNIL.out (by omega) _,B2.out⟩
   · go_ret
     refine ⟨_,_,by rw [hsz]; rfl,?_,B2.out⟩;show EdsAt w0 (some ⟨b,off + f0 * 3,none⟩) (outOf ed s)
     rw [HO.out];exact SlAt.sub HA2.out f0 f1
 · obtain rfl : f1 = 0 := by omega
   obtain rfl : f0 = 0 := by omega
   have HNIL : Hid (∀ A',EdsAt w0 A' (outOf ed s)) := fun A' => by
    have : outOf ed s = [] := List.length_eq_zero_iff.1 (by omega);rw [this]; exact fun h => absurd rfl h
   cases A3 with
   | none =>
     go_wp2_with fail
     go_ret
     exact ⟨_,_,by rw [hsz]; rfl,HNIL.out _,B2.out⟩
   | some ad =>
     obtain ⟨b,o,pth⟩ := ad;go_wp2_with fail
     all_goals (go_ret; exact ⟨_,_,by rw [hsz]; rfl,HNIL.out _,B2.out⟩)
set_option maxHeartbeats 400000 in
theorem indexE_c (g : Nat) (lb : Array Value) (eg : ∀ args w,(callFunc g args).run Tryz.prog w = .ok (.enter g args) w) (p : Ed → Prop) (A : Option Addr) (c : Nat) (l : List Ed) (w : World)
 (hA : EdsAt w A l) (hl : l.length ≤ 140737488355328) (hp : PredOn Tryz.prog g lb Ed.enc p l w) :
 Calls Tryz.prog 115 #[.slice A l.length c,.func (.func g) #[] lb] w (Indexes p l w) := by
 have HA := Lib.hid hA; clear hA;have HP := Lib.hid hp; clear hp;go_enter Tryz.func115,Tryz.ntmps115
 go_wp2
 go_loopw [8] (fun i wr => ∃ k : Nat,k ≤ l.length ∧ i = .int .i64 k ∧ Hid (Below w.heap.size w wr) ∧ Hid (∀ j y,j < k → l[j]? = some y → ¬ p y)) (fun i _ => l.length - (intOf i).toNat)
 case atStart => exact ⟨0,by omega,rfl,Below.refl _ _,fun j y h => absurd h (by omega)⟩
 case round =>
  obtain ⟨k,hk,rfl,BW,HN⟩ := hrel;by_cases hlt : k < l.length
  · obtain ⟨b,off,x,rfl,hb,hx,e0,e1,e2⟩ := EdsAt.at (HA.out.below EdE.stays BW.out) hlt;have hm : x ∈ l := List.mem_of_getElem? hx;have hc := Lib.hid (HP.out wr x hm BW.out);obtain ⟨src,ev,dst⟩ := x;dsimp only [Ed.enc] at e0 e1 e2 hc;clear hm;go_wp2_with fail
    refine hc.out.mono ?_;intro e w1 hs;rcases hs.yes1 with ⟨rfl,S,hb1⟩ | ⟨rfl,S,hb1⟩
    · go_wp2
      go_ret
      exact ⟨k,rfl,.inr ⟨k,_,rfl,hx,S.out,HN.out⟩,BW.out.trans (hb1.mono BW.out.size)⟩
    · go_wp2
      go_roundw
      case rel => exact ⟨k + 1,by omega,by go_num,BW.out.trans (hb1.mono BW.out.size),fun j y hj hy => by
       by_cases h : j = k
       · subst h; rw [hx] at hy; cases hy; exact S.out
       · exact HN.out j y (by omega) hy⟩
      case measure => simp [intOf]; omega
  · obtain rfl : k = l.length := by omega
    go_wp2
    go_ret
    refine ⟨-1,rfl,.inl ⟨rfl,fun x hx => ?_⟩,BW.out⟩;obtain ⟨j,hj,rfl⟩ := List.mem_iff_getElem.1 hx;exact HN.out j _ hj (List.getElem?_eq_getElem hj)
theorem nxt1_c (x : Ed) (ev : Int) (b : Nat) (w : World) (hb : w.cell? ⟨b,0,none⟩ = some (.int .i64 ev)) (hl : b < w.heap.size) :
 Calls Tryz.prog 116 #[Ed.enc x,.pointer (some ⟨b,0,none⟩)] w (Tells (x.ev = ev) w) := by
 obtain ⟨xs,xe,xd⟩ := x;unfold Ed.enc
 dsimp only
 go_enter Tryz.func116,Tryz.ntmps116
 obtain ⟨xb,hxb⟩ : ∃ g,g = w.heap.size := ⟨_,rfl⟩;go_upto_region 1 with fail
 rw [← hxb];refine wp_world (fun V => Sep w.heap.size w [eBlk xb 76 [.int .i64 xs,.int .i64 xe,.int .i64 xd]] V) ((Sep.here w).alloc' _ [_,_,_] rfl hxb) fun V S' => ?_;have S2 := Lib.hid S';clear S' hxb;have x1 := BlkAt.cell (S2.out.get 0 rfl) 1; simp only [List.getElem?_cons_succ,List.getElem?_cons_zero] at x1;have hb2 := (S2.out.below.cell (p := ⟨b,0,none⟩) hl).trans hb;go_wp2_with fail
 go_ret
 exact ⟨xe == ev,rfl,by simp,S2.out.below⟩
theorem nextV_some {a : Au} (hr : a.Right) {s : Nat} {x : Ed} {ev : Int} (hx : x ∈ outOf a.ed s) (he : x.ev = ev) : nextV a.ed s ev = x.dst ∧ 0 ≤ x.dst := by
 have hm := mem_outOf.1 hx;obtain ⟨p,hp,hpx⟩ := List.mem_iff_getElem.1 hm.1;have h1 := hr.nextE (p := p) (x := x) (by rw [← hpx]; exact List.getElem?_eq_getElem hp);have h2 := hr.ed p hp x (by rw [← hpx]; exact List.getElem?_eq_getElem hp);rw [hm.2,he] at h1;exact ⟨h1,h2.2.2.1⟩
theorem nextV_none {a : Au} (hr : a.Right) {s : Nat} {ev : Int} (h : ∀ x,x ∈ outOf a.ed s → ¬ x.ev = ev) : nextV a.ed s ev = -1 := by
 rcases hr.next_cases s ev with g | ⟨_,_,y,hy,y1,y2,_⟩
 · exact g
 · exact absurd y2 (h y (mem_outOf.2 ⟨hy,y1⟩))
set_option maxHeartbeats 2000000 in
theorem anext_c (a : Au) (p : AuP) (s : Nat) (ev : Int) (w : World) (hr : a.Right) (hA : EdsAt w p.A3 a.ed) (hc : a.ed.length ≤ p.c3) (hs : s ≤ 4096) :
 Calls Tryz.prog 92 #[a.val p,.int .i64 ↑s,.int .i64 ev] w (Ret (.int .i64 (nextV a.ed s ev)) w) := by
 have HR := Lib.hid hr;have HA := Lib.hid hA;have hle := ed_len hr;have hlo := outOf_len a.ed s;obtain ⟨r0,hr0⟩ : ∃ r,r = nextV a.ed s ev := ⟨_,rfl⟩;rw [← hr0];have HR0 := Lib.hid hr0;obtain ⟨al,n,mr,ed⟩ := a;obtain ⟨A1,c1,A2,c2,A3,c3⟩ := p;(try dsimp only [Au.val] at *);clear hr hA hr0;go_enter Tryz.func92,Tryz.ntmps92
 obtain ⟨ab,hab⟩ : ∃ g,g = w.heap.size := ⟨_,rfl⟩;obtain ⟨eb,heb⟩ : ∃ g,g = ab + 1 := ⟨_,rfl⟩;go_upto_region 1 with fail
 rw [← hab];rw [← heb];refine wp_world (fun W => Sep w.heap.size w [eBlk eb 3 [.int .i64 ev],eBlk ab 34 [.slice A1 al.length c1,.int .i64 n,.slice A2 mr.length c2,.slice A3 ed.length c3]] W) (((Sep.here w).alloc' _ [_,_,_,_] rfl hab).alloc' _ [_] rfl (by simp; omega)) fun W S => ?_;have S0 := Lib.hid S;clear S hab heb;have a0 := BlkAt.cell (S0.out.get 1 rfl) 0; have a1 := BlkAt.cell (S0.out.get 1 rfl) 1; have a2 := BlkAt.cell (S0.out.get 1 rfl) 2; have a3 := BlkAt.cell (S0.out.get 1 rfl) 3; simp only [List.getElem?_cons_succ,List.getElem?_cons_zero] at a0 a1 a2 a3;have HA1 := Lib.hid (HA.out.below EdE.stays S0.out.below);have CO := Lib.hid (out_c ⟨al,n,mr,ed⟩ ⟨A1,c1,A2,c2,A3,c3⟩ s W W HR.out HA1.out (Below.refl _ _) hc hs);go_wp2_with fail
 refine CO.out.mono ?_;rintro e w2 ⟨AO,cO,rfl,HO,hb⟩;have S1 := Lib.hid (S0.out.next hb);have HO2 := Lib.hid (HO.out.below EdE.stays hb);clear CO hb S0 a0 a1 a2 a3 HA1 HO;dsimp only at HO2 hlo;have CI := Lib.hid (indexE_c 116 #[.pointer (some ⟨eb,0,none⟩)] (fun args w => by rfl) (fun x => x.ev = ev) AO cO (outOf ed s) w2 HO2.out (by omega) (fun V x _ hb => nxt1_c x ev eb V (BlkAt.cell ((S1.out.next hb).get 0 rfl) 0) (BlkAt.lt ((S1.out.next hb).get 0 rfl))));go_wp2_with fail
 refine CI.out.mono ?_;rintro e w3 ⟨r,rfl,hri,hb⟩;have S2 := Lib.hid (S1.out.next hb);have HO3 := Lib.hid (HO2.out.below EdE.stays hb);clear CI hb S1 HO2;rcases hri with ⟨rfl,hno⟩ | ⟨k,x,rfl,hx,he,_⟩
 · have hv : r0 = -1 := by rw [HR0.out]; exact nextV_none HR.out hno
   clear hno;subst hv;go_wp2_with fail
   go_ret
   exact ⟨rfl,S2.out.below⟩
 · have hv := nextV_some HR.out (List.mem_of_getElem? hx) he;rw [← HR0.out] at hv;have hk := (List.getElem?_eq_some_iff.1 hx).1;obtain ⟨b,off,y,rfl,hb,hy,e0,e1,e2⟩ := EdsAt.at HO3.out hk;rw [hx] at hy; cases hy;rw [← hv.1] at e2;clear hx he hv hb e0 e1;go_wp2_with fail
   go_ret
   exact ⟨rfl,S2.out.below⟩
def GivesFo (a : Au) (s : Nat) (wd : List Int) (w : World) (e : Ending) (w' : World) : Prop := ∃ (st : Int) (d : Nat),e = .returned (.tuple #[.int .i64 st,.int .i64 ↑d]) ∧ (d = wd.length ↔ 0 ≤ runV a.ed s wd) ∧ (d = wd.length → st = runV a.ed s wd) ∧ Below w.heap.size w w'
set_option maxHeartbeats 2000000 in
theorem follow_c (a : Au) (p : AuP) (s : Nat) (AW : Option Addr) (cW : Nat) (wd : List Int) (w : World) (hr : a.Right) (hA : EdsAt w p.A3 a.ed) (hc : a.ed.length ≤ p.c3) (hs : (s : Int) < a.n) (hW : IntsAt w AW wd) (hl : wd.length ≤ 1000000) :
 Calls Tryz.prog 61 #[a.val p,.int .i64 ↑s,.slice AW wd.length cW] w (GivesFo a s wd w) := by
 have HR := Lib.hid hr;have HA := Lib.hid hA;have HW := Lib.hid hW;have hn1 := hr.n1;obtain ⟨al,n,mr,ed⟩ := a;obtain ⟨A1,c1,A2,c2,A3,c3⟩ := p;(try dsimp only [Au.val] at *);clear hr hA hW;go_enter Tryz.func61,Tryz.ntmps61
 obtain ⟨ab,hab⟩ : ∃ g,g = w.heap.size := ⟨_,rfl⟩;go_upto_region 1 with fail
 rw [← hab];refine wp_world (fun W => Sep w.heap.size w [eBlk ab 34 [.slice A1 al.length c1,.int .i64 n,.slice A2 mr.length c2,.slice A3 ed.length c3]] W) ((Sep.here w).alloc' _ [_,_,_,_] rfl hab) fun W S => ?_;have S0 := Lib.hid S;clear S hab;go_wp2_with fail
 go_loopw [13,1] (fun vi vs wr => ∃ (k t : Nat),vi = .int .i64 ↑k ∧ vs = .int .i64 ↑t ∧ k ≤ wd.length ∧ (t : Int) < n ∧ Hid (runV ed s (wd.take k) = (t : Int)) ∧ (SepW w [eBlk ab 34 [.slice A1 al.length c1,.int .i64 n,.slice A2 mr.length c2,.slice A3 ed.length c3]] wr)) (fun vi _ _ => wd.length - (intOf vi).toNat)
 case atStart => exact ⟨0,s,rfl,rfl,Nat.zero_le _,hs,rfl,S0.out⟩
 case round =>
  clear S0;obtain ⟨k,t,rfl,rfl,hk,ht,HRN,S⟩ := hrel;by_cases hlt : k < wd.length
  · obtain ⟨b,off,x,rfl,hb,hx,cx⟩ := IntsAt.at (HW.out.below IntE.stays S.out.below) hlt;have HX := Lib.hid hx;have a0 := BlkAt.cell (S.out.get 0 rfl) 0; have a1 := BlkAt.cell (S.out.get 0 rfl) 1; have a2 := BlkAt.cell (S.out.get 0 rfl) 2; have a3 := BlkAt.cell (S.out.get 0 rfl) 3; simp only [List.getElem?_cons_succ,List.getElem?_cons_zero] at a0 a1 a2 a3;have CN := Lib.hid (anext_c ⟨al,n,mr,ed⟩ ⟨A1,c1,A2,c2,A3,c3⟩ t x wr HR.out (HA.out.below EdE.stays S.out.below) hc (by omega));clear hx hb;go_wp2_with fail
    refine CN.out.mono ?_;rintro e w2 ⟨rfl,hb⟩;have S1 := Lib.hid (S.out.next hb);have HST : Hid (runV ed s (wd.take (k + 1)) = nextV ed t x) := by
     rw [Hid,take_snoc HX.out,runV_app,HRN.out];have h0 : 0 ≤ (t : Int) := by omega
     show runV ed (t : Int) [x] = _
     unfold runV
     first | rfl | simp [runV]
    clear CN hb S a0 a1 a2 a3 cx;rcases HR.out.next_cases t x with g | ⟨g1,g2,_⟩
    · dsimp only at g;have HNG : Hid (runV ed s wd = -1) := by
       rw [Hid,← List.take_append_drop (k + 1) wd,runV_app,HST.out,g,runV_neg _ (by omega)]
      have hd : decide (nextV ed (t : Int) x < 0) = true := decide_eq_true (by omega);rw [g];clear g;go_wp2_with fail
      refine bodyPost_ret (v := .tuple #[.int .i64 ↑t,.int .i64 ↑k]) (by simp [results,Tryz.results61,go_sem]) rfl ?_;exact ⟨t,k,rfl,by show k = wd.length ↔ 0 ≤ runV ed s wd; rw [HNG.out]; constructor <;> intro <;> omega,fun h => by omega,S1.out.below⟩
    · dsimp only at g1 g2;obtain ⟨t2,ht2⟩ := Int.eq_ofNat_of_zero_le g1;rw [ht2] at HST g2 ⊢;have hd : decide ((t2 : Int) < 0) = false := decide_eq_false (by omega);clear ht2 g1;go_wp2_with fail
      go_roundw
      case rel => exact ⟨k + 1,t2,by go_num,rfl,by omega,g2,HST.out,S1.out⟩
      case measure => simp [intOf]; omega
  · obtain rfl : k = wd.length := by omega
    have HRN2 : Hid (runV ed s wd = (t : Int)) := by have := HRN.out; rw [List.take_length] at this; exact this
    go_wp2_with fail
    refine bodyPost_ret (v := .tuple #[.int .i64 ↑t,.int .i64 (wd.length : Int)]) (by simp [results,Tryz.results61,go_sem]) rfl ?_;exact ⟨t,wd.length,rfl,by show wd.length = wd.length ↔ 0 ≤ runV ed s wd; rw [HRN2.out]; constructor <;> intro <;> omega,fun _ => HRN2.out.symm,S.out.below⟩
def GivesRe (a : Au) (wd : List Int) (w : World) (e : Ending) (w' : World) : Prop := ∃ (st : Int) (b : Bool),e = .returned (.tuple #[.int .i64 st,.bool b]) ∧ (b = true ↔ 0 ≤ rn a wd) ∧ (b = true → st = rn a wd) ∧ Below w.heap.size w w'
set_option maxHeartbeats 1000000 in
theorem reached_c (a : Au) (p : AuP) (AW : Option Addr) (cW : Nat) (wd : List Int) (w : World) (hr : a.Right) (hA : EdsAt w p.A3 a.ed) (hc : a.ed.length ≤ p.c3) (hn : 0 < a.n) (hW : IntsAt w AW wd) (hl : wd.length ≤ 1000000) :
 Calls Tryz.prog 34 #[a.val p,.slice AW wd.length cW] w (GivesRe a wd w) := by
 have HR := Lib.hid hr;have HA := Lib.hid hA;have HW := Lib.hid hW;have HRN : Hid (rn a wd = runV a.ed 0 wd) := by unfold Hid rn Au.st; rw [if_neg (by omega)]
 have hz : (a.n == 0) = false := beq_eq_false_iff_ne.2 (by omega);obtain ⟨al,n,mr,ed⟩ := a;obtain ⟨A1,c1,A2,c2,A3,c3⟩ := p;(try dsimp only [Au.val] at *);clear hr hA hW;go_enter Tryz.func34,Tryz.ntmps34
 obtain ⟨ab,hab⟩ : ∃ g,g = w.heap.size := ⟨_,rfl⟩;go_upto_region 1 with fail
 rw [← hab];refine wp_world (fun W => Sep w.heap.size w [eBlk ab 34 [.slice A1 al.length c1,.int .i64 n,.slice A2 mr.length c2,.slice A3 ed.length c3]] W) ((Sep.here w).alloc' _ [_,_,_,_] rfl hab) fun W S => ?_;have S := Lib.hid S;clear hab;have a0 := BlkAt.cell (S.out.get 0 rfl) 0; have a1 := BlkAt.cell (S.out.get 0 rfl) 1; have a2 := BlkAt.cell (S.out.get 0 rfl) 2; have a3 := BlkAt.cell (S.out.get 0 rfl) 3; simp only [List.getElem?_cons_succ,List.getElem?_cons_zero] at a0 a1 a2 a3;have CF := Lib.hid (follow_c ⟨al,n,mr,ed⟩ ⟨A1,c1,A2,c2,A3,c3⟩ 0 AW cW wd W HR.out (HA.out.below EdE.stays S.out.below) hc hn (HW.out.below IntE.stays S.out.below) hl);go_wp2_with fail
 refine CF.out.mono ?_;rintro e w2 ⟨st,d,rfl,h1,h2,hb⟩;have S1 := Lib.hid (S.out.next hb);obtain ⟨b,hbd⟩ : ∃ b,b = ((d : Int) == (wd.length : Int)) := ⟨_,rfl⟩;have hbd2 : (b = true ↔ d = wd.length) := by
  rw [hbd,beq_iff_eq];omega
 have H1 : Hid ((b = true ↔ 0 ≤ rn ⟨al,n,mr,ed⟩ wd) ∧ (b = true → st = rn ⟨al,n,mr,ed⟩ wd)) := by
  rw [Hid,HRN.out];exact ⟨hbd2.trans h1,fun h => h2 (hbd2.1 h)⟩
 have hbd3 := hbd.symm;clear CF hb S a0 a1 a2 a3 h1 h2 hbd2 hbd;go_wp2_with fail
 refine bodyPost_ret (v := .tuple #[.int .i64 st,.bool b]) (by simp [results,Tryz.results34,go_sem, *]) rfl ?_;exact ⟨st,b,rfl,H1.out.1,H1.out.2,S1.out.below⟩
def GivesGn (Q : Prop) (w : World) (e : Ending) (w' : World) : Prop := ∃ b : Bool,e = .returned (.tuple #[.bool b,.int .i64 0]) ∧ (b = true ↔ Q) ∧ Below w.heap.size w w'
set_option maxHeartbeats 1000000 in
theorem generates_c (a : Au) (p : AuP) (AW : Option Addr) (cW : Nat) (wd : List Int) (w : World) (hr : a.Right) (hA : Au.At w a p) (hc : a.ed.length ≤ p.c3) (hn : 0 < a.n) (hW : IntsAt w AW wd) (hl : wd.length ≤ 1000000) :
 Calls Tryz.prog 10 #[a.val p,.slice AW wd.length cW] w (GivesGn (0 ≤ rn a wd) w) := by
 have HR := Lib.hid hr;have HA := Lib.hid hA;have HW := Lib.hid hW;obtain ⟨al,n,mr,ed⟩ := a;obtain ⟨A1,c1,A2,c2,A3,c3⟩ := p;(try dsimp only [Au.val] at *);clear hr hA hW;go_enter Tryz.func10,Tryz.ntmps10
 obtain ⟨ab,hab⟩ : ∃ g,g = w.heap.size := ⟨_,rfl⟩;go_upto_region 1 with fail
 rw [← hab];refine wp_world (fun W => Sep w.heap.size w [eBlk ab 34 [.slice A1 al.length c1,.int .i64 n,.slice A2 mr.length c2,.slice A3 ed.length c3]] W) ((Sep.here w).alloc' _ [_,_,_,_] rfl hab) fun W S => ?_;have S0 := Lib.hid S;clear S hab;have a0 := BlkAt.cell (S0.out.get 0 rfl) 0; have a1 := BlkAt.cell (S0.out.get 0 rfl) 1; have a2 := BlkAt.cell (S0.out.get 0 rfl) 2; have a3 := BlkAt.cell (S0.out.get 0 rfl) 3; simp only [List.getElem?_cons_succ,List.getElem?_cons_zero] at a0 a1 a2 a3;have CX := Lib.hid (CheckX_c ⟨al,n,mr,ed⟩ ⟨A1,c1,A2,c2,A3,c3⟩ W (HA.out.below S0.out.below));go_wp2_with fail
 refine CX.out.mono ?_;rintro e w2 ⟨r,rfl,hr,hb⟩;obtain rfl : r = 0 := hr.zero.2 HR.out;have S := Lib.hid (S0.out.next hb);clear S0 hb hr CX a0 a1 a2 a3;have a0 := BlkAt.cell (S.out.get 0 rfl) 0; have a1 := BlkAt.cell (S.out.get 0 rfl) 1; have a2 := BlkAt.cell (S.out.get 0 rfl) 2; have a3 := BlkAt.cell (S.out.get 0 rfl) 3; simp only [List.getElem?_cons_succ,List.getElem?_cons_zero] at a0 a1 a2 a3;have CR := Lib.hid (reached_c ⟨al,n,mr,ed⟩ ⟨A1,c1,A2,c2,A3,c3⟩ AW cW wd w2 HR.out (HA.out.below S.out.below).ed hc hn (HW.out.below IntE.stays S.out.below) hl);go_wp2_with fail
 refine CR.out.mono ?_;rintro e w3 ⟨st,b,rfl,h1,_,hb⟩;have S1 := Lib.hid (S.out.next hb);have H1 := Lib.hid h1;clear CR hb S a0 a1 a2 a3 h1;go_wp2_with fail
 refine bodyPost_ret (v := .tuple #[.bool b,.int .i64 0]) (by simp [results,Tryz.results10,go_sem]) rfl ?_;exact ⟨b,rfl,H1.out,S1.out.below⟩
set_option maxHeartbeats 1000000 in
theorem accepts_c (a : Au) (p : AuP) (AW : Option Addr) (cW : Nat) (wd : List Int) (w : World) (hr : a.Right) (hA : Au.At w a p) (hc : a.ed.length ≤ p.c3) (hn : 0 < a.n) (hW : IntsAt w AW wd) (hl : wd.length ≤ 1000000) :
 Calls Tryz.prog 11 #[a.val p,.slice AW wd.length cW] w (GivesGn (rn a wd ∈ a.mr) w) := by
 have HR := Lib.hid hr;have HA := Lib.hid hA;have HW := Lib.hid hW;have hml := hA.lmk;have HM : Hid (rn a wd ∈ a.mr → 0 ≤ rn a wd) := fun h => (hr.mem h).1;obtain ⟨al,n,mr,ed⟩ := a;obtain ⟨A1,c1,A2,c2,A3,c3⟩ := p;(try dsimp only [Au.val] at *);clear hr hA hW;go_enter Tryz.func11,Tryz.ntmps11
 obtain ⟨ab,hab⟩ : ∃ g,g = w.heap.size := ⟨_,rfl⟩;go_upto_region 1 with fail
 rw [← hab];refine wp_world (fun W => Sep w.heap.size w [eBlk ab 34 [.slice A1 al.length c1,.int .i64 n,.slice A2 mr.length c2,.slice A3 ed.length c3]] W) ((Sep.here w).alloc' _ [_,_,_,_] rfl hab) fun W S => ?_;have S0 := Lib.hid S;clear S hab;have a0 := BlkAt.cell (S0.out.get 0 rfl) 0; have a1 := BlkAt.cell (S0.out.get 0 rfl) 1; have a2 := BlkAt.cell (S0.out.get 0 rfl) 2; have a3 := BlkAt.cell (S0.out.get 0 rfl) 3; simp only [List.getElem?_cons_succ,List.getElem?_cons_zero] at a0 a1 a2 a3;have CX := Lib.hid (CheckX_c ⟨al,n,mr,ed⟩ ⟨A1,c1,A2,c2,A3,c3⟩ W (HA.out.below S0.out.below));go_wp2_with fail
 refine CX.out.mono ?_;rintro e w2 ⟨r,rfl,hr,hb⟩;obtain rfl : r = 0 := hr.zero.2 HR.out;have S := Lib.hid (S0.out.next hb);clear S0 hb hr CX a0 a1 a2 a3;have a0 := BlkAt.cell (S.out.get 0 rfl) 0; have a1 := BlkAt.cell (S.out.get 0 rfl) 1; have a2 := BlkAt.cell (S.out.get 0 rfl) 2; have a3 := BlkAt.cell (S.out.get 0 rfl) 3; simp only [List.getElem?_cons_succ,List.getElem?_cons_zero] at a0 a1 a2 a3;have CR := Lib.hid (reached_c ⟨al,n,mr,ed⟩ ⟨A1,c1,A2,c2,A3,c3⟩ AW cW wd w2 HR.out (HA.out.below S.out.below).ed hc hn (HW.out.below IntE.stays S.out.below) hl);go_wp2_with fail
 refine CR.out.mono ?_;rintro e w3 ⟨st,b,rfl,h1,h2,hb⟩;have S1 := Lib.hid (S.out.next hb);have H1 := Lib.hid h1;have H2 := Lib.hid h2;clear CR hb S a0 a1 a2 a3 h1 h2;have a2 := BlkAt.cell (S1.out.get 0 rfl) 2; simp only [List.getElem?_cons_succ,List.getElem?_cons_zero] at a2;cases b
 · have HN : Hid (¬ rn ⟨al,n,mr,ed⟩ wd ∈ mr) := fun h => absurd (H1.out.2 (HM.out h)) (by simp);go_wp2_with fail
   refine bodyPost_ret (v := .tuple #[.bool false,.int .i64 0]) (by simp [results,Tryz.results11,go_sem]) rfl ?_;exact ⟨false,rfl,by simpa using HN.out,S1.out.below⟩
 · have HE : Hid (st = rn ⟨al,n,mr,ed⟩ wd) := H2.out rfl;have CS := Lib.hid (containsV_c A2 c2 mr st w3 (HA.out.below S1.out.below).mr hml);go_wp2_with fail
   refine CS.out.mono ?_;intro e w4 hs;clear CS;rcases hs.no1 with ⟨rfl,hn,rfl⟩ | ⟨rfl,hn,rfl⟩
   · go_wp2_with fail
     refine bodyPost_ret (v := .tuple #[.bool false,.int .i64 0]) (by simp [results,Tryz.results11,go_sem]) rfl ?_;exact ⟨false,rfl,by have := hn.out; rw [HE.out] at this; simpa using this,S1.out.below⟩
   · go_wp2_with fail
     refine bodyPost_ret (v := .tuple #[.bool true,.int .i64 0]) (by simp [results,Tryz.results11,go_sem]) rfl ?_;exact ⟨true,rfl,by have := hn.out; rw [HE.out] at this; simpa using this,S1.out.below⟩
def WL (vs : List Pw) : Prop := ∀ (j : Nat) p,vs[j]? = some p → p.w.length ≤ j
theorem wl_snoc {vs : List Pw} (h : WL vs) {p : Pw} (hp : p.w.length ≤ vs.length) : WL (vs ++ [p]) := fun j q hq => by
 rcases getElem?_snoc hq with hq | ⟨hj,rfl⟩
 · exact h j q hq
 · omega
theorem generates_n (a : Au) (p : AuP) (AW : Option Addr) (cW : Nat) (wd : List Int) (m : Nat) (w : World) (hm : m = wd.length) (hr : a.Right) (hA : Au.At w a p) (hc : a.ed.length ≤ p.c3) (hn : 0 < a.n) (hW : IntsAt w AW wd) (hl : wd.length ≤ 1000000) :
 Calls Tryz.prog 10 #[a.val p,.slice AW m cW] w (GivesGn (0 ≤ rn a wd) w) := by
 subst hm;exact generates_c a p AW cW wd w hr hA hc hn hW hl
theorem accepts_n (a : Au) (p : AuP) (AW : Option Addr) (cW : Nat) (wd : List Int) (m : Nat) (w : World) (hm : m = wd.length) (hr : a.Right) (hA : Au.At w a p) (hc : a.ed.length ≤ p.c3) (hn : 0 < a.n) (hW : IntsAt w AW wd) (hl : wd.length ≤ 1000000) :
 Calls Tryz.prog 11 #[a.val p,.slice AW m cW] w (GivesGn (rn a wd ∈ a.mr) w) := by
 subst hm;exact accepts_c a p AW cW wd w hr hA hc hn hW hl
set_option maxHeartbeats 16000000 in
theorem lawRelaxed_c (x : Sm5) (w : World) (hx : x.Ok) : Calls Tryz.prog 3 #[.agg x.cells.toArray] w (Ret (.bool true) w) := by
 have HN6 : Hid (0 < x.md.a.n ∧ x.md.a.n ≤ 126) := by
  have := Sm4.n_rg (Sm5.d4_ok hx);show 0 < ((x.d4.n : Nat) : Int) ∧ ((x.d4.n : Nat) : Int) ≤ 126
  omega
 have HS6 : Hid (x.md.a.al.length ≤ 1048576 ∧ x.md.a.mr.length ≤ 1048576 ∧ x.md.a.ed.length ≤ 1048576) := by
  have h := (Sm5.md_ok hx).a;have h0 := Sm4.n_rg (Sm5.d4_ok hx);have h1 := rises_len (n := 32) h.al.incr fun y hy => al_rg h hy;have h2 := rises_len (n := 4096) h.mr.incr fun y hy => by have := h.mem hy; have := h.n1; omega
  have h3 := ed_len h;refine ⟨by omega,by omega,by omega⟩
 have HLM : Hid (Lens x.md.rlx.a) := (Sm5.sml hx).lens;have MK := Lib.hid (fun W : World => makeM_c x W hx);have SM := Lib.hid (Sm5.sml hx);have INFO := Lib.hid (Sm5.info hx);obtain ⟨m,hm⟩ : ∃ m,m = x.md := ⟨_,rfl⟩;rw [← hm] at MK SM HN6 HS6 HLM;obtain ⟨cs,hcs⟩ : ∃ cs,cs = x.cells := ⟨_,rfl⟩;rw [← hcs] at MK INFO ⊢;clear hm hcs hx;go_enter Tryz.func3,Tryz.ntmps3
 obtain ⟨xb,hxb⟩ : ∃ g,g = w.heap.size := ⟨_,rfl⟩;go_upto_region 1 with fail
 rw [← hxb];refine wp_world (fun W => (SepW w [eBlk xb 29 cs] W)) ((Sep.here w).alloc' _ cs rfl hxb) fun v1 S' => ?_;have T1 := Lib.hid S'.out;clear S' hxb;go_wp2_with fail
 refine (knownT_c v1).mono ?_;rintro e2 v2 ⟨rfl,hb⟩;have T2 := Lib.hid (T1.out.next hb);clear hb T1;have hrg := range_of (T2.out.get 0 rfl);go_wp2_with (refine wpList_load_mid rfl 29 _ rfl xb 0 rfl cs _ hrg Tryz.underlying29 rfl INFO.out ?_)
 refine (MK.out v2).mono ?_;rintro e3 v3 ⟨⟨p,B,d⟩,rfl,T⟩;dsimp only [Md.cells];have T3 := qkN T2.out T.out;clear T T2;clear hrg MK INFO;obtain ⟨mb,hg4⟩ : ∃ g,g = v3.heap.size := ⟨_,rfl⟩;go_upto_region 4 with fail
 rw [← hg4];refine wp_world (fun V => (SepW w [eBlk mb 37 [.slice p.A1 m.a.al.length p.c1,.int .i64 m.a.n,.slice p.A2 m.a.mr.length p.c2,.slice p.A3 m.a.ed.length p.c3,.slice B m.ac.length d,.int .i64 m.tk],eMdl m ⟨p,B,d⟩,eBlk xb 29 cs] V)) (T3.out.alloc' 37 [.slice p.A1 m.a.al.length p.c1,.int .i64 m.a.n,.slice p.A2 m.a.mr.length p.c2,.slice p.A3 m.a.ed.length p.c3,.slice B m.ac.length d,.int .i64 m.tk] rfl hg4) fun v4 S' => ?_;have T4 := Lib.hid S'.out;clear S' T3 hg4;obtain ⟨mm,hmm⟩ : ∃ mm,mm = m.rlx := ⟨_,rfl⟩;have HMM := Lib.hid hmm;have HML : Hid (mm.ac.length = 4) := by rw [Hid,hmm,rlx_len]; exact SM.out.len
 have HMT : Hid (mm.tk = 4) := by rw [Hid,hmm]; exact SM.out.tk
 have HMA : Hid (mm.a = m.a) := by rw [Hid,hmm]; rfl
 have HAC : Hid (∀ (i : Nat) x,mm.ac[i]? = some x → x = ⟨(i : Int),0,-1⟩) := fun i x hx => by
  rw [hmm] at hx;simp only [Md.rlx,List.getElem?_map,Option.map_eq_some_iff] at hx;obtain ⟨y,hy,rfl⟩ := hx;have hi := (List.getElem?_eq_some_iff.1 hy).1;have := SM.out.ev i (by have := SM.out.len; omega);rw [Md.ev_get hy] at this;unfold Ac.rlx
  rw [this]
 have LN := Lib.hid (lens_rt SM.out.ok.a);have RX := Lib.hid (relaxed_c m ⟨p,B,d⟩ v4 SM.out.ok (T4.out.mdAt 1 rfl SM.out.lens) SM.out.lens HS6.out);rw [← hmm] at RX HLM;dsimp only [Md.cells] at RX;clear hmm;have f_mb0 := qkC T4.out 0 rfl 0 rfl;have f_mb1 := qkC T4.out 0 rfl 1 rfl;have f_mb2 := qkC T4.out 0 rfl 2 rfl;have f_mb3 := qkC T4.out 0 rfl 3 rfl;have f_mb4 := qkC T4.out 0 rfl 4 rfl;have f_mb5 := qkC T4.out 0 rfl 5 rfl;go_wp2_with fail
 refine (RX.out).mono ?_;rintro e5 v5 ⟨⟨p2,B2,d2⟩,rfl,T⟩;dsimp only [Md.cells];have T5 := qkN T4.out T.out;clear f_mb0 f_mb1 f_mb2 f_mb3 f_mb4 f_mb5 T T4;clear RX;obtain ⟨nb,hg6⟩ : ∃ g,g = v5.heap.size := ⟨_,rfl⟩;go_upto_region 5 with fail
 rw [← hg6];refine wp_world (fun V => (SepW w [eBlk nb 37 [.slice p2.A1 mm.a.al.length p2.c1,.int .i64 mm.a.n,.slice p2.A2 mm.a.mr.length p2.c2,.slice p2.A3 mm.a.ed.length p2.c3,.slice B2 mm.ac.length d2,.int .i64 mm.tk],eMdl mm ⟨p2,B2,d2⟩,eBlk mb 37 [.slice p.A1 m.a.al.length p.c1,.int .i64 m.a.n,.slice p.A2 m.a.mr.length p.c2,.slice p.A3 m.a.ed.length p.c3,.slice B m.ac.length d,.int .i64 m.tk],eMdl m ⟨p,B,d⟩,eBlk xb 29 cs] V)) (T5.out.alloc' 37 [.slice p2.A1 mm.a.al.length p2.c1,.int .i64 mm.a.n,.slice p2.A2 mm.a.mr.length p2.c2,.slice p2.A3 mm.a.ed.length p2.c3,.slice B2 mm.ac.length d2,.int .i64 mm.tk] rfl hg6) fun v6 S' => ?_;have T6 := Lib.hid S'.out;clear S' T5 hg6;have f_mb0 := qkC T6.out 2 rfl 0 rfl;have f_mb1 := qkC T6.out 2 rfl 1 rfl;have f_mb2 := qkC T6.out 2 rfl 2 rfl;have f_mb3 := qkC T6.out 2 rfl 3 rfl;have f_mb4 := qkC T6.out 2 rfl 4 rfl;have f_mb5 := qkC T6.out 2 rfl 5 rfl;have f_nb0 := qkC T6.out 0 rfl 0 rfl;have f_nb1 := qkC T6.out 0 rfl 1 rfl;have f_nb2 := qkC T6.out 0 rfl 2 rfl;have f_nb3 := qkC T6.out 0 rfl 3 rfl;have f_nb4 := qkC T6.out 0 rfl 4 rfl;have f_nb5 := qkC T6.out 0 rfl 5 rfl;have AT1 := Lib.hid (T6.out.mdAt 1 rfl HLM.out);have AT2 := Lib.hid (T6.out.mdAt 3 rfl SM.out.lens);have EQ := Lib.hid (autoEq_c mm.a m.a p2 p v6 AT1.out.a AT2.out.a);have hac4 : ((mm.ac.length : Int) != 4) = false := by rw [HML.out]; rfl
 have hac5 : (mm.ac.length != 4) = false := by rw [HML.out]; rfl
 have htk4 : (mm.tk != 4) = false := by rw [HMT.out]; rfl
 clear AT1 AT2;go_wp2_with fail
 refine (EQ.out).mono ?_;intro e7 v7 hs;obtain ⟨rfl,hb⟩ := hs.yes2 (HMA.out);have T7 := Lib.hid (T6.out.next hb);clear f_mb0 f_mb1 f_mb2 f_mb3 f_mb4 f_mb5 f_nb0 f_nb1 f_nb2 f_nb3 f_nb4 f_nb5 hb hs T6;clear EQ hac4 hac5 htk4;go_wp2_with fail
 go_loopw [6] (fun vi wr => ∃ i : Nat,vi = .int .i64 ↑i ∧ i ≤ 4 ∧ (SepW w [eBlk nb 37 [.slice p2.A1 mm.a.al.length p2.c1,.int .i64 mm.a.n,.slice p2.A2 mm.a.mr.length p2.c2,.slice p2.A3 mm.a.ed.length p2.c3,.slice B2 mm.ac.length d2,.int .i64 mm.tk],eMdl mm ⟨p2,B2,d2⟩,eBlk mb 37 [.slice p.A1 m.a.al.length p.c1,.int .i64 m.a.n,.slice p.A2 m.a.mr.length p.c2,.slice p.A3 m.a.ed.length p.c3,.slice B m.ac.length d,.int .i64 m.tk],eMdl m ⟨p,B,d⟩,eBlk xb 29 cs] wr)) (fun vi _ => 4 - (intOf vi).toNat)
 case atStart => exact ⟨0,rfl,by omega,T7.out⟩
 case round =>
  clear T7;obtain ⟨i,rfl,hi,S⟩ := hrel;by_cases hlt : i < 4
  · have b1 := BlkAt.cell (S.out.get 0 rfl) 4; simp only [List.getElem?_cons_succ,List.getElem?_cons_zero] at b1;obtain ⟨gb,og,y,hB,hgb,hy,y0,y1,y2⟩ := AcsAt.at (S.out.mdAt 1 rfl HLM.out).ac (k := i) (by rw [HML.out]; exact hlt);obtain rfl := HAC.out i y hy;dsimp only at y0 y1 y2 hB;subst hB;have hil : i < mm.ac.length := by rw [HML.out]; exact hlt
    clear hy hgb;go_wp2_with fail
    go_roundw
    case rel => exact ⟨i + 1,by go_num,by omega,S.out⟩
    case measure => simp [intOf]; omega
  · obtain rfl : i = 4 := by omega
    have f_nb0 := qkC S.out 0 rfl 0 rfl;have f_nb1 := qkC S.out 0 rfl 1 rfl;have f_nb2 := qkC S.out 0 rfl 2 rfl;have f_nb3 := qkC S.out 0 rfl 3 rfl;have f_nb4 := qkC S.out 0 rfl 4 rfl;have f_nb5 := qkC S.out 0 rfl 5 rfl;go_wp2_with fail
    refine (untimed_c m mm HMM.out ⟨p2,B2,d2⟩ wr SM.out.ok (S.out.mdAt 1 rfl HLM.out) HN6.out.1 HN6.out.2 SM.out.few (S.out.mdCap 1 rfl)).mono ?_;rintro e21 v21 ⟨u,pu,rfl,T,HU⟩;dsimp only [Au.val];have T21 := qkN S.out T.out;clear f_nb0 f_nb1 f_nb2 f_nb3 f_nb4 f_nb5 T S;obtain ⟨ub,hg22⟩ : ∃ g,g = v21.heap.size := ⟨_,rfl⟩;go_upto_region 13 with fail
    rw [← hg22];refine wp_world (fun V => (SepW w [eBlk ub 34 [.slice pu.A1 u.al.length pu.c1,.int .i64 u.n,.slice pu.A2 u.mr.length pu.c2,.slice pu.A3 u.ed.length pu.c3],eInts u.al (.slice pu.A1 u.al.length pu.c1),eInts u.mr (.slice pu.A2 u.mr.length pu.c2),eEds u.ed (.slice pu.A3 u.ed.length pu.c3),eBlk nb 37 [.slice p2.A1 mm.a.al.length p2.c1,.int .i64 mm.a.n,.slice p2.A2 mm.a.mr.length p2.c2,.slice p2.A3 mm.a.ed.length p2.c3,.slice B2 mm.ac.length d2,.int .i64 mm.tk],eMdl mm ⟨p2,B2,d2⟩,eBlk mb 37 [.slice p.A1 m.a.al.length p.c1,.int .i64 m.a.n,.slice p.A2 m.a.mr.length p.c2,.slice p.A3 m.a.ed.length p.c3,.slice B m.ac.length d,.int .i64 m.tk],eMdl m ⟨p,B,d⟩,eBlk xb 29 cs] V)) (T21.out.alloc' 34 [.slice pu.A1 u.al.length pu.c1,.int .i64 u.n,.slice pu.A2 u.mr.length pu.c2,.slice pu.A3 u.ed.length pu.c3] rfl hg22) fun v22 S' => ?_;have T22 := Lib.hid S'.out;clear S' T21 hg22;have T23 : (SepW w [eBlk ub 34 [.slice pu.A1 u.al.length pu.c1,.int .i64 u.n,.slice pu.A2 u.mr.length pu.c2,.slice pu.A3 u.ed.length pu.c3],eInts u.al (.slice pu.A1 u.al.length pu.c1),eInts u.mr (.slice pu.A2 u.mr.length pu.c2),eEds u.ed (.slice pu.A3 u.ed.length pu.c3),eBlk mb 37 [.slice p.A1 m.a.al.length p.c1,.int .i64 m.a.n,.slice p.A2 m.a.mr.length p.c2,.slice p.A3 m.a.ed.length p.c3,.slice B m.ac.length d,.int .i64 m.tk],eMdl m ⟨p,B,d⟩] v22) := T22.out.pick [0,1,2,3,6,7] (by decide);clear T22;have LU := Lib.hid (lens_rt HU.out.1);obtain ⟨b0,hb0⟩ : ∃ b,b = v22.heap.size := ⟨_,rfl⟩
    go_upto_region 16 with fail
    rw [← hb0];refine wp_world (fun V => Sep w.heap.size w [eWds [] [⟨0,0,none,0,0⟩] [⟨0,0,[]⟩],eOwn encW 1 31 [⟨0,0,none,0,0⟩] (.slice (some ⟨b0,0,none⟩) 1 1),eBlk ub 34 [.slice pu.A1 u.al.length pu.c1,.int .i64 u.n,.slice pu.A2 u.mr.length pu.c2,.slice pu.A3 u.ed.length pu.c3],eInts u.al (.slice pu.A1 u.al.length pu.c1),eInts u.mr (.slice pu.A2 u.mr.length pu.c2),eEds u.ed (.slice pu.A3 u.ed.length pu.c3),eBlk mb 37 [.slice p.A1 m.a.al.length p.c1,.int .i64 m.a.n,.slice p.A2 m.a.mr.length p.c2,.slice p.A3 m.a.ed.length p.c3,.slice B m.ac.length d,.int .i64 m.tk],eMdl m ⟨p,B,d⟩] V) ?_ fun W2 S => ?_
    · have h1 := ((T23.out.alloc' 31 [.slice none 0 0] rfl hb0).own 0 rfl encW 1 [⟨0,0,none,0,0⟩] rfl (fun _ => rfl) (by simp [maxLen])).new1 (Below.refl _ _) (eWds [] [] []) ⟨rfl,by simp,by simp⟩ (by simp [eWds]);exact Sep.wdsPush (wd := []) (A := none) (c := 0) (h1.nilOwn encI 1 3) 0 0
    have S6 := Lib.hid S;clear S T23 hb0;go_wp2_with fail
    go_loopw [9,10,11,12,13,14,15,16,17,18,19,20] (fun v j _ _ _ _ _ _ _ _ _ _ wr => ∃ (n : Nat) (raw : List PrV) (vs : List Pw) (AR : Option Addr) (cR : Nat) (fs : List Nat),j = .int .i64 ↑n ∧ v = .slice AR raw.length cR ∧ n ≤ 85 ∧ Hid (raw.length = 1 + 4 * n) ∧ Hid (raw.length = vs.length) ∧ Hid (WL vs) ∧ (SepW w [eWds fs raw vs,eOwn encW 1 31 raw (.slice AR raw.length cR),eBlk ub 34 [.slice pu.A1 u.al.length pu.c1,.int .i64 u.n,.slice pu.A2 u.mr.length pu.c2,.slice pu.A3 u.ed.length pu.c3],eInts u.al (.slice pu.A1 u.al.length pu.c1),eInts u.mr (.slice pu.A2 u.mr.length pu.c2),eEds u.ed (.slice pu.A3 u.ed.length pu.c3),eBlk mb 37 [.slice p.A1 m.a.al.length p.c1,.int .i64 m.a.n,.slice p.A2 m.a.mr.length p.c2,.slice p.A3 m.a.ed.length p.c3,.slice B m.ac.length d,.int .i64 m.tk],eMdl m ⟨p,B,d⟩] wr)) (fun _ j _ _ _ _ _ _ _ _ _ _ _ => 85 - (intOf j).toNat)
    case atStart => exact ⟨0,[⟨0,0,none,0,0⟩],[⟨0,0,[]⟩],_,_,[],rfl,rfl,by omega,rfl,rfl,(fun j p h => by cases j with | zero => simp at h; subst h; simp | succ j => simp at h),S6.out⟩
    case round =>
     clear S6;obtain ⟨n,raw,vs,AR,cR,fs,rfl,rfl,hn,hrl,hlv,HL,S⟩ := hrel;by_cases hlt : n < 85
     · have hnr : n < raw.length := by have := hrl.out; omega
       obtain ⟨gR,oR,r,rfl,hr,hrc⟩ := S.out.wdAt 1 rfl hnr;have hnv : n < vs.length := by have := hlv.out; omega
       obtain ⟨pw,hp⟩ : ∃ p,vs[n]? = some p := ⟨_,List.getElem?_eq_getElem hnv⟩;obtain ⟨_,_,hwd⟩ := (S.out.get 0 rfl).2.2 n r pw hr hp;have hpl : pw.w.length ≤ n := HL.out n pw hp;have HWI : Hid (IntsAt wr r.A pw.w) := hwd.ints (S.out.get 0 rfl).2.1;have hrn : r.n = pw.w.length := hwd.1;have HWD := Lib.hid hwd;obtain ⟨rX,rY,rA,rn,rc⟩ := r;dsimp only at hrn hrc;have HRN := Lib.hid hrn;clear hrn;dsimp only at HWI;have HRr := Lib.hid hr;have HP := Lib.hid hp;have HAL := Lib.hid (HU.out.2.2 pw.w);clear hr hp hwd;have hn85 : decide ((n : Int) < 85) = true := decide_eq_true (by omega);have z0 := BlkAt.cell (S.out.get 2 rfl) 0; have z1 := BlkAt.cell (S.out.get 2 rfl) 1; have z2 := BlkAt.cell (S.out.get 2 rfl) 2; have z3 := BlkAt.cell (S.out.get 2 rfl) 3; simp only [List.getElem?_cons_succ,List.getElem?_cons_zero] at z0 z1 z2 z3;have CG := Lib.hid (generates_n u pu rA rc pw.w rn wr HRN.out HU.out.1 ⟨S.out.ints 3 rfl,S.out.ints 4 rfl,S.out.eds 5 rfl,LU.out.1,LU.out.2.1,LU.out.2.2⟩ (Own.cap (S.out.get 5 rfl)) HU.out.2.1 HWI.out (by omega));dsimp only [Au.val] at CG;go_wp2_with fail
       refine CG.out.mono ?_;rintro eq v1q ⟨b1,rfl,hq1',hb⟩;have hq1 := Lib.hid hq1';have S1 := Lib.hid (S.out.next hb);have HW1 := Lib.hid (HWI.out.below IntE.stays hb);clear CG hq1' hb z0 z1 z2 z3 S;have z0 := BlkAt.cell (S1.out.get 6 rfl) 0; have z1 := BlkAt.cell (S1.out.get 6 rfl) 1; have z2 := BlkAt.cell (S1.out.get 6 rfl) 2; have z3 := BlkAt.cell (S1.out.get 6 rfl) 3; simp only [List.getElem?_cons_succ,List.getElem?_cons_zero] at z0 z1 z2 z3;have CG := Lib.hid (generates_n m.a p rA rc pw.w rn v1q HRN.out SM.out.ok.a (S1.out.mdAt 7 rfl SM.out.lens).a (Own.cap (S1.out.get 7 rfl).2.2.1) HN6.out.1 HW1.out (by omega));dsimp only [Au.val] at CG;go_wp2_with fail
       refine CG.out.mono ?_;rintro eq v2q ⟨b2,rfl,hq2',hb⟩;have hq2 := Lib.hid hq2';have S2 := Lib.hid (S1.out.next hb);have HW2 := Lib.hid (HW1.out.below IntE.stays hb);clear CG hq2' hb z0 z1 z2 z3 S1 HW1;have z0 := BlkAt.cell (S2.out.get 2 rfl) 0; have z1 := BlkAt.cell (S2.out.get 2 rfl) 1; have z2 := BlkAt.cell (S2.out.get 2 rfl) 2; have z3 := BlkAt.cell (S2.out.get 2 rfl) 3; simp only [List.getElem?_cons_succ,List.getElem?_cons_zero] at z0 z1 z2 z3;have CG := Lib.hid (accepts_n u pu rA rc pw.w rn v2q HRN.out HU.out.1 ⟨S2.out.ints 3 rfl,S2.out.ints 4 rfl,S2.out.eds 5 rfl,LU.out.1,LU.out.2.1,LU.out.2.2⟩ (Own.cap (S2.out.get 5 rfl)) HU.out.2.1 HW2.out (by omega));dsimp only [Au.val] at CG;go_wp2_with fail
       refine CG.out.mono ?_;rintro eq v3q ⟨b3,rfl,hq3',hb⟩;have hq3 := Lib.hid hq3';have S3 := Lib.hid (S2.out.next hb);have HW3 := Lib.hid (HW2.out.below IntE.stays hb);clear CG hq3' hb z0 z1 z2 z3 S2 HW2;have z0 := BlkAt.cell (S3.out.get 6 rfl) 0; have z1 := BlkAt.cell (S3.out.get 6 rfl) 1; have z2 := BlkAt.cell (S3.out.get 6 rfl) 2; have z3 := BlkAt.cell (S3.out.get 6 rfl) 3; simp only [List.getElem?_cons_succ,List.getElem?_cons_zero] at z0 z1 z2 z3;have CG := Lib.hid (accepts_n m.a p rA rc pw.w rn v3q HRN.out SM.out.ok.a (S3.out.mdAt 7 rfl SM.out.lens).a (Own.cap (S3.out.get 7 rfl).2.2.1) HN6.out.1 HW3.out (by omega));dsimp only [Au.val] at CG;go_wp2_with fail
       refine CG.out.mono ?_;rintro eq v4q ⟨b4,rfl,hq4',hb⟩;have hq4 := Lib.hid hq4';have S4 := Lib.hid (S3.out.next hb);have HW4 := Lib.hid (HW3.out.below IntE.stays hb);clear CG hq4' hb z0 z1 z2 z3 S3 HW3;have e12 : b1 = b2 := by rw [Bool.eq_iff_iff]; exact hq1.out.trans (HAL.out.1.trans hq2.out.symm)
       have e34 : b3 = b4 := by rw [Bool.eq_iff_iff]; exact hq3.out.trans (HAL.out.2.trans hq4.out.symm)
       subst e12 e34;have hbb1 : (b1 != b1) = false := by simp
       have hbb3 : (b3 != b3) = false := by simp
       clear hq1 hq2 hq3 hq4 HAL HWI HW4;have S7 := S4;clear S4;go_wp2_with fail
       clear hbb1 hbb3;go_loopw [9,20] (fun v j wr => ∃ (k : Nat) (raw : List PrV) (vs : List Pw) (AR : Option Addr) (cR : Nat) (fs : List Nat),j = .int .i64 ↑k ∧ v = .slice AR raw.length cR ∧ k ≤ 4 ∧ Hid (raw.length = 1 + 4 * n + k) ∧ Hid (raw.length = vs.length) ∧ Hid (WL vs) ∧ Hid (raw[n]? = some ⟨rX,rY,rA,rn,rc⟩) ∧ Hid (vs[n]? = some pw) ∧ (SepW w [eWds fs raw vs,eOwn encW 1 31 raw (.slice AR raw.length cR),eBlk ub 34 [.slice pu.A1 u.al.length pu.c1,.int .i64 u.n,.slice pu.A2 u.mr.length pu.c2,.slice pu.A3 u.ed.length pu.c3],eInts u.al (.slice pu.A1 u.al.length pu.c1),eInts u.mr (.slice pu.A2 u.mr.length pu.c2),eEds u.ed (.slice pu.A3 u.ed.length pu.c3),eBlk mb 37 [.slice p.A1 m.a.al.length p.c1,.int .i64 m.a.n,.slice p.A2 m.a.mr.length p.c2,.slice p.A3 m.a.ed.length p.c3,.slice B m.ac.length d,.int .i64 m.tk],eMdl m ⟨p,B,d⟩] wr)) (fun _ j _ => 4 - (intOf j).toNat)
       case atStart => exact ⟨0,raw,vs,_,cR,fs,rfl,rfl,by omega,hrl.out,hlv.out,HL.out,HRr.out,HP.out,S7.out⟩
       case round =>
        clear S7 hrl hlv HL HRr HP hnr hnv HWD;obtain ⟨k,raw,vs,AR,cR,fs,rfl,rfl,hk,hrl,hlv,HL,HRr,HP,S⟩ := hrel;have hnr : n < raw.length := by have := hrl.out; omega
        by_cases hk4 : k < 4
        · obtain ⟨gR,oR,_,rfl,_,_⟩ := S.out.wdAt 1 rfl hnr;obtain ⟨_,_,hwd⟩ := (S.out.get 0 rfl).2.2 n _ pw HRr.out HP.out;have hrl4 : raw.length ≤ 1000 := by have := hrl.out; omega
          rcases hwd.2 with ⟨e1,hw0,e3⟩ | ⟨gW,e1,_,_⟩
          · dsimp only at e1 e3;subst e1 e3;have HW0 := Lib.hid hw0;obtain rfl : rn = 0 := by rw [HRN.out,hw0]; rfl
            clear hw0 hwd;go_wp2_with (at_builtin; refine wpList_pushS rfl _ _ 31 rfl (((S.out.alloc 3 []).own 0 rfl encI 1 [] rfl (fun _ => rfl) (by simp)).alloc' 3 [.int .i64 ↑k] (o := .cells #[.int .i64 ↑k] 3) rfl (g := wr.heap.size + 1) (by simp)) 1 rfl Tryz.underlying31 _ 8 intInfo rfl (by decide) rfl (k : Int) _ rfl rfl (fun j u hj => (BlkAt.cell ((((S.out.alloc 3 []).own 0 rfl encI 1 [] rfl (fun _ => rfl) (by simp)).alloc' 3 [.int .i64 ↑k] (o := .cells #[.int .i64 ↑k] 3) rfl (g := wr.heap.size + 1) (by simp)).get 0 rfl) j).trans hj) (encI_one _) (by decide) (by decide) ?_)
            intro A6 c6 w6 S6' _;have S6 := Lib.hid S6'.drop1;clear S6' S;go_wp2_with (at_builtin; refine wpList_pushS rfl _ _ 47 rfl (S6.out.alloc 31 [.slice A6 (([] : List Int).length + 1) c6]) 3 rfl Tryz.underlying47 _ 24 wdInfo rfl (by decide) rfl ⟨0,0,A6,([] : List Int).length + 1,c6⟩ _ rfl rfl (fun j u hj => (BlkAt.cell ((S6.out.alloc 31 [.slice A6 (([] : List Int).length + 1) c6]).get 0 rfl) j).trans hj) (wdOne _) (by omega) (by decide) ?_)
            intro A7 c7 w7 S7' _;have S7 : Sep w.heap.size w [eInts (([] : List Int) ++ [(k : Int)]) (.slice A6 (([] : List Int) ++ [(k : Int)]).length c6),eWds fs raw vs,eOwn encW 1 31 (raw ++ [⟨0,0,A6,([] : List Int).length + 1,c6⟩]) (.slice A7 (raw.length + 1) c7),eBlk ub 34 [.slice pu.A1 u.al.length pu.c1,.int .i64 u.n,.slice pu.A2 u.mr.length pu.c2,.slice pu.A3 u.ed.length pu.c3],eInts u.al (.slice pu.A1 u.al.length pu.c1),eInts u.mr (.slice pu.A2 u.mr.length pu.c2),eEds u.ed (.slice pu.A3 u.ed.length pu.c3),eBlk mb 37 [.slice p.A1 m.a.al.length p.c1,.int .i64 m.a.n,.slice p.A2 m.a.mr.length p.c2,.slice p.A3 m.a.ed.length p.c3,.slice B m.ac.length d,.int .i64 m.tk],eMdl m ⟨p,B,d⟩] w7 := by
             have h := S7'.pick [1,2,3,4,5,6,7,8,9] (by decide);rw [List.length_append];exact h
            have h2 := S7.wdsPush 0 0;rw [List.length_append] at h2;obtain ⟨fs2,hfs2⟩ : ∃ f,f = (Value.slice A6 ((([] : List Int)).length + [(k : Int)].length) c6).ownBlock.toList ++ fs := ⟨_,rfl⟩;rw [← hfs2] at h2;clear hfs2 S7 S7' S6;have S8 : (SepW w [eWds fs2 (raw ++ [⟨0,0,A6,([] : List Int).length + 1,c6⟩]) (vs ++ [⟨0,0,([] : List Int) ++ [(k : Int)]⟩]),eOwn encW 1 31 (raw ++ [⟨0,0,A6,([] : List Int).length + 1,c6⟩]) (.slice A7 (raw ++ [(⟨0,0,A6,([] : List Int).length + 1,c6⟩ : PrV)]).length c7),eBlk ub 34 [.slice pu.A1 u.al.length pu.c1,.int .i64 u.n,.slice pu.A2 u.mr.length pu.c2,.slice pu.A3 u.ed.length pu.c3],eInts u.al (.slice pu.A1 u.al.length pu.c1),eInts u.mr (.slice pu.A2 u.mr.length pu.c2),eEds u.ed (.slice pu.A3 u.ed.length pu.c3),eBlk mb 37 [.slice p.A1 m.a.al.length p.c1,.int .i64 m.a.n,.slice p.A2 m.a.mr.length p.c2,.slice p.A3 m.a.ed.length p.c3,.slice B m.ac.length d,.int .i64 m.tk],eMdl m ⟨p,B,d⟩] w7) := by
             rw [List.length_append];exact h2
            go_wp2_with fail
            go_roundw
            case rel => exact ⟨k + 1,raw ++ [(⟨0,0,A6,([] : List Int).length + 1,c6⟩ : PrV)],vs ++ [(⟨0,0,([] : List Int) ++ [(k : Int)]⟩ : Pw)],A7,c7,fs2,by go_num,by rw [List.length_append]; rfl,by omega,by rw [Hid,List.length_append]; have := hrl.out; show raw.length + 1 = _; omega,by rw [Hid,List.length_append,List.length_append,hlv.out]; rfl,wl_snoc HL.out (by have := hrl.out; have := hlv.out; simp; omega),by rw [Hid,List.getElem?_append_left (by have := hrl.out; omega)]; exact HRr.out,by rw [Hid,List.getElem?_append_left (by have := hrl.out; have := hlv.out; omega)]; exact HP.out,S8.out⟩
            case measure => simp [intOf]; omega
          · dsimp only at e1;subst e1;obtain rfl := HRN.out;clear hwd;go_wp2_with (at_builtin; refine wpList_pushNS rfl _ _ 31 rfl ((S.out.alloc 3 []).own 0 rfl encI 1 [] rfl (fun _ => rfl) (by simp)) 0 rfl Tryz.underlying31 _ 8 intInfo rfl (by decide) rfl pw.w gW _ rfl (fun _ => rfl) (Sep.wdCells ((S.out.alloc 3 []).own 0 rfl encI 1 [] rfl (fun _ => rfl) (by simp)) 1 rfl HRr.out HP.out) encI_one (by simp; omega) (by decide) ?_)
            intro A5 c5 w5 S5' _;have S5 := Lib.hid S5';clear S5' S;(try simp only [List.nil_append,List.length_nil,Nat.zero_add] at S5);(try simp only [List.length_nil,Nat.zero_add]);go_wp2_with (at_builtin; refine wpList_pushS rfl _ _ 31 rfl (S5.out.alloc 3 [.int .i64 ↑k]) 1 rfl Tryz.underlying31 _ 8 intInfo rfl (by decide) rfl (k : Int) _ rfl rfl (fun j u hj => (BlkAt.cell ((S5.out.alloc 3 [.int .i64 ↑k]).get 0 rfl) j).trans hj) (encI_one _) (by omega) (by decide) ?_)
            intro A6 c6 w6 S6' _;have S6 := Lib.hid S6'.drop1;clear S6' S5;go_wp2_with (at_builtin; refine wpList_pushS rfl _ _ 47 rfl (S6.out.alloc 31 [.slice A6 (pw.w.length + 1) c6]) 3 rfl Tryz.underlying47 _ 24 wdInfo rfl (by decide) rfl ⟨0,0,A6,pw.w.length + 1,c6⟩ _ rfl rfl (fun j u hj => (BlkAt.cell ((S6.out.alloc 31 [.slice A6 (pw.w.length + 1) c6]).get 0 rfl) j).trans hj) (wdOne _) (by omega) (by decide) ?_)
            intro A7 c7 w7 S7' _;have S7 : Sep w.heap.size w [eInts (pw.w ++ [(k : Int)]) (.slice A6 (pw.w ++ [(k : Int)]).length c6),eWds fs raw vs,eOwn encW 1 31 (raw ++ [⟨0,0,A6,pw.w.length + 1,c6⟩]) (.slice A7 (raw.length + 1) c7),eBlk ub 34 [.slice pu.A1 u.al.length pu.c1,.int .i64 u.n,.slice pu.A2 u.mr.length pu.c2,.slice pu.A3 u.ed.length pu.c3],eInts u.al (.slice pu.A1 u.al.length pu.c1),eInts u.mr (.slice pu.A2 u.mr.length pu.c2),eEds u.ed (.slice pu.A3 u.ed.length pu.c3),eBlk mb 37 [.slice p.A1 m.a.al.length p.c1,.int .i64 m.a.n,.slice p.A2 m.a.mr.length p.c2,.slice p.A3 m.a.ed.length p.c3,.slice B m.ac.length d,.int .i64 m.tk],eMdl m ⟨p,B,d⟩] w7 := by
             have h := S7'.pick [1,2,3,4,5,6,7,8,9] (by decide);rw [List.length_append];exact h
            have h2 := S7.wdsPush 0 0;rw [List.length_append] at h2;obtain ⟨fs2,hfs2⟩ : ∃ f,f = (Value.slice A6 ((pw.w).length + [(k : Int)].length) c6).ownBlock.toList ++ fs := ⟨_,rfl⟩;rw [← hfs2] at h2;clear hfs2 S7 S7' S6;have S8 : (SepW w [eWds fs2 (raw ++ [⟨0,0,A6,pw.w.length + 1,c6⟩]) (vs ++ [⟨0,0,pw.w ++ [(k : Int)]⟩]),eOwn encW 1 31 (raw ++ [⟨0,0,A6,pw.w.length + 1,c6⟩]) (.slice A7 (raw ++ [(⟨0,0,A6,pw.w.length + 1,c6⟩ : PrV)]).length c7),eBlk ub 34 [.slice pu.A1 u.al.length pu.c1,.int .i64 u.n,.slice pu.A2 u.mr.length pu.c2,.slice pu.A3 u.ed.length pu.c3],eInts u.al (.slice pu.A1 u.al.length pu.c1),eInts u.mr (.slice pu.A2 u.mr.length pu.c2),eEds u.ed (.slice pu.A3 u.ed.length pu.c3),eBlk mb 37 [.slice p.A1 m.a.al.length p.c1,.int .i64 m.a.n,.slice p.A2 m.a.mr.length p.c2,.slice p.A3 m.a.ed.length p.c3,.slice B m.ac.length d,.int .i64 m.tk],eMdl m ⟨p,B,d⟩] w7) := by
             rw [List.length_append];exact h2
            go_wp2_with fail
            go_roundw
            case rel => exact ⟨k + 1,raw ++ [(⟨0,0,A6,pw.w.length + 1,c6⟩ : PrV)],vs ++ [(⟨0,0,pw.w ++ [(k : Int)]⟩ : Pw)],A7,c7,fs2,by go_num,by rw [List.length_append]; rfl,by omega,by rw [Hid,List.length_append]; have := hrl.out; show raw.length + 1 = _; omega,by rw [Hid,List.length_append,List.length_append,hlv.out]; rfl,wl_snoc HL.out (by have := hrl.out; have := hlv.out; simp; omega),by rw [Hid,List.getElem?_append_left (by have := hrl.out; omega)]; exact HRr.out,by rw [Hid,List.getElem?_append_left (by have := hrl.out; have := hlv.out; omega)]; exact HP.out,S8.out⟩
            case measure => simp [intOf]; omega
        · obtain rfl : k = 4 := by omega
          go_wp2_with fail
          go_roundw
          case rel =>
           refine ⟨_,_,_,_,_,_,_,_,_,_,_,_,_,_,_,_,_,_,_,_,_,_,_,_,_,_,_,_,_,_,_,_,_,_,_,_,_,_,_,_,_,_,_,_,_,_,_,_,_,_,_,_,_,_,_,_,_,_,_,_,_,_,_,_,_,_,_,_,_,_,_,_,_,_,_,_,_,_,_,_,_,_,_,_,⟨n + 1,raw,vs,AR,cR,fs,?_,rfl,by omega,by rw [Hid,hrl.out]; omega,hlv.out,HL.out,S.out⟩,rfl⟩;go_num
          case measure => simp [intOf]; omega
     · obtain rfl : n = 85 := by omega
       go_wp2_with fail
       go_ret
       exact ⟨rfl,S.out.below⟩
end Go.Proofs.YtimdepdbcdbikaaGreat
