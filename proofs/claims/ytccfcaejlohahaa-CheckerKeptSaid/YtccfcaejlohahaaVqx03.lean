/-
  What the row leans on.
-/
import Derived.Test.YtccfcaejlohahaaVqx02
import Derived.Test.YtccfcaejlohahaaBas15
import Derived.Test.YtccfcaejlohahaaBas11
import Derived.BigQuiet
import Derived.Deep.MidRow
import Derived.Deep.CutBlock
import Derived.Deep.DeepCutAuto
import Derived.Test.YtccfcaejlohahaaRows
import Derived.WalkKit
import Derived.ProofKit
import Derived.OpenShut
import Derived.ShutString
import Derived.ChangeOld
import Derived.Below
import Derived.Lib.SmallJoins
import Derived.Test.YtccfcaejlohahaaBas01
import Derived.Test.YtccfcaejlohahaaBas04
import Derived.Test.YtccfcaejlohahaaVqx01
set_option linter.unusedSimpArgs false
set_option linter.unusedVariables false
namespace Go.Proofs.Ytccfcaejlohahaa
open Go.RowKit
set_option maxRecDepth 100000
set_option maxHeartbeats 4000000 in
theorem changedX_c (K0 D0 : List Int) (R0 : List Rm) (p : CeP) (fl xa xy : Int) (w : World) (hC : CeAt w K0 D0 R0 p) (hl : K0.length ≤ 1000 ∧ D0.length ≤ 1000 ∧ R0.length ≤ 1000) (hf : 0 ≤ fl ∧ fl < 256) (hx : 0 ≤ xa ∧ xa < 256) (hy : -128 ≤ xy ∧ xy < 128) :
 Calls Try.prog 9 #[.agg #[.slice p.AK K0.length p.cK,.slice p.AD D0.length p.cD,.slice p.AR R0.length p.cR],.agg #[.int .u8 fl,.int .u8 xa,.int .i8 xy]] w (GivesCg K0.length D0.length R0.length w) := by
 have CH := Lib.hid (fun W (hb : Below w.heap.size w W) => changed_c K0 D0 R0 p fl xa xy W (hC.below hb) hl hf hx hy);obtain ⟨AK0,cK0,AD0,cD0,AR0,cR0⟩ := p;dsimp only at CH ⊢;clear hC hl hf hx hy;go_enter Try.func9,Try.ntmps9
 obtain ⟨cb,hcb⟩ : ∃ g,g = w.heap.size := ⟨_,rfl⟩;obtain ⟨xb,hxb⟩ : ∃ g,g = cb + 1 := ⟨_,rfl⟩;obtain ⟨rb,hrb⟩ : ∃ g,g = xb + 1 := ⟨_,rfl⟩;go_upto_region 1 with fail
 (try rw [← hcb]);(try rw [← hxb]);(try rw [← hrb]);refine wp_world (fun W => Sep w.heap.size w [eBlk rb 47 [.slice none 0 0,.slice none 0 0,.slice none 0 0],eBlk xb 33 [.int .u8 fl,.int .u8 xa,.int .i8 xy],eBlk cb 47 [.slice AK0 K0.length cK0,.slice AD0 D0.length cD0,.slice AR0 R0.length cR0]] W) ((((Sep.here w).alloc' _ [_,_,_] rfl hcb).alloc' _ [_,_,_] rfl (by simp; omega)).alloc' _ [_,_,_] rfl (by simp; omega)) fun W S => ?_;have S0 := Lib.hid S;clear S hrb hxb hcb;have x0 := BlkAt.cell (S0.out.get 1 rfl) 0; have x1 := BlkAt.cell (S0.out.get 1 rfl) 1; have x2 := BlkAt.cell (S0.out.get 1 rfl) 2; simp only [List.getElem?_cons_succ,List.getElem?_cons_zero] at x0 x1 x2;have c0 := BlkAt.cell (S0.out.get 2 rfl) 0; have c1 := BlkAt.cell (S0.out.get 2 rfl) 1; have c2 := BlkAt.cell (S0.out.get 2 rfl) 2; simp only [List.getElem?_cons_succ,List.getElem?_cons_zero] at c0 c1 c2;go_wp2_with fail
 refine (CH.out W S0.out.below).mono ?_;rintro e w1 ⟨K,D,R,AK,cK,AD,cD,AR,cR,rfl,hlen,T⟩;have S := qkN S0.out T.out;have HLN := Lib.hid hlen;clear T S0 CH hlen x0 x1 x2 c0 c1 c2;have r0 := BlkAt.cell (S.out.get 3 rfl) 0; have r1 := BlkAt.cell (S.out.get 3 rfl) 1; have r2 := BlkAt.cell (S.out.get 3 rfl) 2; simp only [List.getElem?_cons_succ,List.getElem?_cons_zero] at r0 r1 r2;have f0 := BlkAt.free (S.out.get 3 rfl) 0; have f1 := BlkAt.free (S.out.get 3 rfl) 1; have f2 := BlkAt.free (S.out.get 3 rfl) 2;have S3 : (SepW w [eInts K (.slice AK K.length cK),eInts D (.slice AD D.length cD),eRms R (.slice AR R.length cR),eBlk rb 47 [.slice AK K.length cK,.slice AD D.length cD,.slice AR R.length cR],eBlk xb 33 [.int .u8 fl,.int .u8 xa,.int .i8 xy],eBlk cb 47 [.slice AK0 K0.length cK0,.slice AD0 D0.length cD0,.slice AR0 R0.length cR0]] ((((w1.setCell ⟨rb,0,none⟩ (.slice AK K.length cK)).setCell ⟨rb,1,none⟩ (.slice AD D.length cD)).setCell ⟨rb,2,none⟩ (.slice AR R.length cR)))) := (((S.out.set 3 rfl 0 _).set 3 rfl 1 _).set 3 rfl 2 _);have q0 := BlkAt.cell (S3.out.get 3 rfl) 0; have q1 := BlkAt.cell (S3.out.get 3 rfl) 1; have q2 := BlkAt.cell (S3.out.get 3 rfl) 2; simp only [List.getElem?_cons_succ,List.getElem?_cons_zero] at q0 q1 q2;clear S;go_wp2_with fail
 refine bodyPost_ret (v := .agg #[.slice AK K.length cK,.slice AD D.length cD,.slice AR R.length cR]) (by simp [results,Try.results9,go_sem, *]) rfl ?_;exact ⟨K,D,R,AK,cK,AD,cD,AR,cR,rfl,HLN.out,S3.out.pick [0,1,2] (by decide)⟩
theorem range_of {w : World} {g T : Nat} {cs : List Value} (h : BlkAt w g T cs) : w.rangeAt g 0 cs := fun j v hv => by rw [Nat.zero_add]; exact (h.cell j).trans hv
theorem Own.len5 {l : List Int} {n : Int} (h : setOk l n l.length) (h0 : 0 ≤ n) (h1 : n ≤ 4096) : l.length ≤ 4096 := by
 have g : ∀ (i : Nat) (x : Int),l[i]? = some x → (i : Int) ≤ x := by
  intro i;induction i with
  | zero => intro x hx; exact (h 0 x (List.getElem?_eq_some_iff.1 hx).1 hx).1
  | succ i ih =>
    intro x hx;have hi := (List.getElem?_eq_some_iff.1 hx).1;obtain ⟨y,hy⟩ : ∃ y,l[i]? = some y := ⟨_,List.getElem?_eq_getElem (by omega)⟩;have h2 := ih y hy;have h3 := (h (i + 1) x hi hx).2.2 y (by omega) (by simpa using hy);push_cast
    omega
 rcases Nat.eq_zero_or_pos l.length with e | e
 · omega
 · have hx := List.getElem?_eq_getElem (l := l) (i := l.length - 1) (by omega);have h2 := g _ _ hx;have h3 := (h _ _ (by omega) hx).2.1;omega
set_option maxHeartbeats 16000000 in
theorem lawKept_c (ev : Int) (g : Gr) (fb un fc f1 a1 y1 f2 a2 y2 : Int) (w : World) (hev : 0 ≤ ev ∧ ev < 256) (hg : g.Ok) (hfb : 0 ≤ fb ∧ fb < 256) (hun : 0 ≤ un ∧ un < 256) (hfc : 0 ≤ fc ∧ fc < 256) (hb1 : (0 ≤ f1 ∧ f1 < 256) ∧ (0 ≤ a1 ∧ a1 < 256) ∧ (-128 ≤ y1 ∧ y1 < 128)) (hb2 : (0 ≤ f2 ∧ f2 < 256) ∧ (0 ≤ a2 ∧ a2 < 256) ∧ (-128 ≤ y2 ∧ y2 < 128)) :
 Calls Try.prog 3 #[.agg (skC ev g fb un fc).toArray,.agg #[.int .u8 f1,.int .u8 a1,.int .i8 y1,.int .u8 f2,.int .u8 a2,.int .i8 y2]] w (fun e w' => e = .returned (.bool true) ∧ Below w.heap.size w w') := by
 have MK := Lib.hid (fun W : World => make46_c ev g fb un fc W hev hg hfb hun hfc);have INFO : Hid ((Try.prog.info? 30).map (·.size) = some (skC ev g fb un fc).length) := by rw [Hid,show (skC ev g fb un fc).length = 31 from rfl]; kernel_rfl
 have HB1 := Lib.hid hb1;have HB2 := Lib.hid hb2;obtain ⟨cs,hcs⟩ : ∃ cs,cs = skC ev g fb un fc := ⟨_,rfl⟩;rw [← hcs] at MK INFO ⊢;clear hcs hev hg hfb hun hfc hb1 hb2;go_enter Try.func3,Try.ntmps3
 obtain ⟨kb,hkb⟩ : ∃ g,g = w.heap.size := ⟨_,rfl⟩;obtain ⟨xb,hxb⟩ : ∃ g,g = kb + 1 := ⟨_,rfl⟩;go_upto_region 1 with fail
 (try rw [← hkb]);(try rw [← hxb]);refine wp_world (fun W => (SepW w [eBlk xb 34 [.int .u8 f1,.int .u8 a1,.int .i8 y1,.int .u8 f2,.int .u8 a2,.int .i8 y2],eBlk kb 30 cs] W)) (((Sep.here w).alloc' _ cs rfl hkb).alloc' _ [_,_,_,_,_,_] rfl (by simp; omega)) fun v1 S' => ?_;have T1 := Lib.hid S'.out;clear S' hxb hkb;go_wp2_with fail
 refine (known_c v1).mono ?_;rintro e2 v2 ⟨rfl,hb⟩;have T2 := Lib.hid (T1.out.next hb);clear hb T1;have hrg := range_of (T2.out.get 1 rfl);go_wp2_with (refine wpList_load_mid rfl 30 _ rfl kb 0 rfl cs _ hrg Try.underlying30 rfl INFO.out ?_)
 refine (MK.out v2).mono ?_;rintro e3 v3 ⟨a,p,fo,unc,frc,AF,cF,AU,cU,AC,cC,rfl,hpr,h5,hn,T'⟩;have T := Lib.hid (show Sep v2.heap.size v2 [eInts a.al (.slice p.A1 a.al.length p.c1),eInts a.mr (.slice p.A2 a.mr.length p.c2),eEds a.ed (.slice p.A3 a.ed.length p.c3),eInts fo (.slice AF fo.length cF),eInts unc (.slice AU unc.length cU),eInts frc (.slice AC frc.length cC)] v3 from T'.out);clear T';have HPR := Lib.hid hpr;have HLE := Lib.hid hn;have H5 := Lib.hid h5;clear hpr h5 hn;have hev : Hid (∀ y,y ∈ a.ed → y.ev ≠ 31) := fun y hy => by
  obtain ⟨j,hj,rfl⟩ := List.mem_iff_getElem.1 hy;have := (HPR.out.ha.ed j hj _ (List.getElem?_eq_getElem hj)).2.2.2.2.1;have := H5.out.rg _ this;omega
 have HNN : Hid (a.n.toNat ≤ 5) := by have := HLE.out.1; rw [Hid]; omega
 have HFL : Hid (fo.length ≤ 140737488355328) := by
  have := Own.len5 HPR.out.hf HPR.out.ha.n0 HPR.out.ha.n1;rw [Hid]; omega
 have HUL : Hid (unc.length ≤ 140737488355328) := by
  have := Own.len5 HPR.out.hu (by decide) (by decide);rw [Hid]; omega
 have HEL : Hid (a.ed.length ≤ 25) := HLE.out.2.1;have HLN : Hid (a.al.length ≤ 140737488355328 ∧ a.mr.length ≤ 140737488355328 ∧ a.ed.length ≤ 140737488355328) := by have := H5.out.len; have := HLE.out.2; exact ⟨by omega,by omega,by omega⟩
 have T3 := qkN T2.out T.out;clear T T2;clear hrg MK INFO;obtain ⟨tb,hg4⟩ : ∃ g,g = v3.heap.size := ⟨_,rfl⟩;go_upto_region 4 with fail
 rw [← hg4];refine wp_world (fun V => (SepW w [eBlk tb 41 [.slice p.A1 a.al.length p.c1,.int .i64 a.n,.slice p.A2 a.mr.length p.c2,.slice p.A3 a.ed.length p.c3,.slice AF fo.length cF,.slice AU unc.length cU,.slice AC frc.length cC,.int .i64 4],eInts a.al (.slice p.A1 a.al.length p.c1),eInts a.mr (.slice p.A2 a.mr.length p.c2),eEds a.ed (.slice p.A3 a.ed.length p.c3),eInts fo (.slice AF fo.length cF),eInts unc (.slice AU unc.length cU),eInts frc (.slice AC frc.length cC),eBlk xb 34 [.int .u8 f1,.int .u8 a1,.int .i8 y1,.int .u8 f2,.int .u8 a2,.int .i8 y2],eBlk kb 30 cs] V)) (T3.out.alloc' 41 [.slice p.A1 a.al.length p.c1,.int .i64 a.n,.slice p.A2 a.mr.length p.c2,.slice p.A3 a.ed.length p.c3,.slice AF fo.length cF,.slice AU unc.length cU,.slice AC frc.length cC,.int .i64 4] rfl hg4) fun v4 S' => ?_;have T4 := Lib.hid S'.out;clear S' T3 hg4;have f_tb0 := qkC T4.out 0 rfl 0 rfl;have f_tb1 := qkC T4.out 0 rfl 1 rfl;have f_tb2 := qkC T4.out 0 rfl 2 rfl;have f_tb3 := qkC T4.out 0 rfl 3 rfl;have f_tb4 := qkC T4.out 0 rfl 4 rfl;have f_tb5 := qkC T4.out 0 rfl 5 rfl;have f_tb6 := qkC T4.out 0 rfl 6 rfl;have f_tb7 := qkC T4.out 0 rfl 7 rfl;have g7 := BlkAt.free (T4.out.get 0 rfl) 7;have g6 := BlkAt.free (T4.out.get 0 rfl) 6;go_upto_region 5 with fail
 refine wp_world (fun V => (SepW w [eBlk tb 41 [.slice p.A1 a.al.length p.c1,.int .i64 a.n,.slice p.A2 a.mr.length p.c2,.slice p.A3 a.ed.length p.c3,.slice AF fo.length cF,.slice AU unc.length cU,.slice none 0 0,.int .i64 31],eInts a.al (.slice p.A1 a.al.length p.c1),eInts a.mr (.slice p.A2 a.mr.length p.c2),eEds a.ed (.slice p.A3 a.ed.length p.c3),eInts fo (.slice AF fo.length cF),eInts unc (.slice AU unc.length cU),eInts frc (.slice AC frc.length cC),eBlk xb 34 [.int .u8 f1,.int .u8 a1,.int .i8 y1,.int .u8 f2,.int .u8 a2,.int .i8 y2],eBlk kb 30 cs] V)) ((T4.out.set 0 rfl 7 (.int .i64 31)).set 0 rfl 6 (.slice none 0 0)) fun vt S' => ?_;have Tt := Lib.hid S'.out;clear f_tb0 f_tb1 f_tb2 f_tb3 f_tb4 f_tb5 f_tb6 f_tb7 S' T4 g7 g6;have f_tb0 := qkC Tt.out 0 rfl 0 rfl;have f_tb1 := qkC Tt.out 0 rfl 1 rfl;have f_tb2 := qkC Tt.out 0 rfl 2 rfl;have f_tb3 := qkC Tt.out 0 rfl 3 rfl;have f_tb4 := qkC Tt.out 0 rfl 4 rfl;have f_tb5 := qkC Tt.out 0 rfl 5 rfl;have f_tb6 := qkC Tt.out 0 rfl 6 rfl;have f_tb7 := qkC Tt.out 0 rfl 7 rfl;obtain ⟨pb,hg5⟩ : ∃ g,g = vt.heap.size := ⟨_,rfl⟩;go_upto_region 6 with fail
 rw [← hg5];refine wp_world (fun V => (SepW w [eBlk pb 44 [.slice p.A1 a.al.length p.c1,.int .i64 a.n,.slice p.A2 a.mr.length p.c2,.slice p.A3 a.ed.length p.c3,.slice AF fo.length cF,.slice AU unc.length cU],eBlk tb 41 [.slice p.A1 a.al.length p.c1,.int .i64 a.n,.slice p.A2 a.mr.length p.c2,.slice p.A3 a.ed.length p.c3,.slice AF fo.length cF,.slice AU unc.length cU,.slice none 0 0,.int .i64 31],eInts a.al (.slice p.A1 a.al.length p.c1),eInts a.mr (.slice p.A2 a.mr.length p.c2),eEds a.ed (.slice p.A3 a.ed.length p.c3),eInts fo (.slice AF fo.length cF),eInts unc (.slice AU unc.length cU),eInts frc (.slice AC frc.length cC),eBlk xb 34 [.int .u8 f1,.int .u8 a1,.int .i8 y1,.int .u8 f2,.int .u8 a2,.int .i8 y2],eBlk kb 30 cs] V)) (Tt.out.alloc' 44 [.slice p.A1 a.al.length p.c1,.int .i64 a.n,.slice p.A2 a.mr.length p.c2,.slice p.A3 a.ed.length p.c3,.slice AF fo.length cF,.slice AU unc.length cU] rfl hg5) fun v5 S' => ?_;have T5 := Lib.hid S'.out;clear f_tb0 f_tb1 f_tb2 f_tb3 f_tb4 f_tb5 f_tb6 f_tb7 S' Tt hg5;have f_tb0 := qkC T5.out 1 rfl 0 rfl;have f_tb1 := qkC T5.out 1 rfl 1 rfl;have f_tb2 := qkC T5.out 1 rfl 2 rfl;have f_tb3 := qkC T5.out 1 rfl 3 rfl;have f_tb4 := qkC T5.out 1 rfl 4 rfl;have f_tb5 := qkC T5.out 1 rfl 5 rfl;have f_tb6 := qkC T5.out 1 rfl 6 rfl;have f_tb7 := qkC T5.out 1 rfl 7 rfl;go_wp2_with fail
 refine (synthesize_c a p fo unc AF cF AU cU v5 HPR.out (⟨T5.out.ints 2 rfl,T5.out.ints 3 rfl,T5.out.eds 4 rfl,HLN.out.1,HLN.out.2.1,HLN.out.2.2⟩ : Au.At v5 a p) (T5.out.ints 5 rfl) (T5.out.ints 6 rfl) (by have h1 := HNN.out; have h2 := HEL.out; have := Nat.mul_le_mul h1 h2; omega) (by have := HEL.out; omega) HFL.out HUL.out).mono ?_;rintro e6 v6 ⟨K,D,R,cp,rk,s,ps,l,AO,cO,left,rfl,HK,_,_,T⟩;have HKL : Hid (K.length ≤ 5 ∧ D.length ≤ 5 ∧ R.length ≤ 5) := by have h1 := HK.out.dv.len; have h2 := HK.out.ld; have h3 := HNN.out; exact ⟨by omega,by omega,by omega⟩
 have T6 := qkN T5.out T.out;clear f_tb0 f_tb1 f_tb2 f_tb3 f_tb4 f_tb5 f_tb6 f_tb7 T T5;obtain ⟨rs,hg7⟩ : ∃ g,g = v6.heap.size := ⟨_,rfl⟩;go_upto_region 7 with fail
 rw [← hg7]
 refine wp_world (fun V => (SepW w [eBlk rs 49 [.slice cp.AK K.length cp.cK,.slice cp.AD D.length cp.cD,.slice cp.AR R.length cp.cR,.int .i64 rk,.slice ps.A1 s.al.length ps.c1,.int .i64 s.n,.slice ps.A2 s.mr.length ps.c2,.slice ps.A3 s.ed.length ps.c3,.slice AO l.length cO],eInts K (.slice cp.AK K.length cp.cK),eInts D (.slice cp.AD D.length cp.cD),eRms R (.slice cp.AR R.length cp.cR),eInts s.al (.slice ps.A1 s.al.length ps.c1),eInts s.mr (.slice ps.A2 s.mr.length ps.c2),eEds s.ed (.slice ps.A3 s.ed.length ps.c3),eInts l (.slice AO l.length cO),eBlk pb 44 [.slice p.A1 a.al.length p.c1,.int .i64 a.n,.slice p.A2 a.mr.length p.c2,.slice p.A3 a.ed.length p.c3,.slice AF fo.length cF,.slice AU unc.length cU],eBlk tb 41 [.slice p.A1 a.al.length p.c1,.int .i64 a.n,.slice p.A2 a.mr.length p.c2,.slice p.A3 a.ed.length p.c3,.slice AF fo.length cF,.slice AU unc.length cU,.slice none 0 0,.int .i64 31],eInts a.al (.slice p.A1 a.al.length p.c1),eInts a.mr (.slice p.A2 a.mr.length p.c2),eEds a.ed (.slice p.A3 a.ed.length p.c3),eInts fo (.slice AF fo.length cF),eInts unc (.slice AU unc.length cU),eInts frc (.slice AC frc.length cC),eBlk xb 34 [.int .u8 f1,.int .u8 a1,.int .i8 y1,.int .u8 f2,.int .u8 a2,.int .i8 y2],eBlk kb 30 cs] V)) (T6.out.alloc' 49 [.slice cp.AK K.length cp.cK,.slice cp.AD D.length cp.cD,.slice cp.AR R.length cp.cR,.int .i64 rk,.slice ps.A1 s.al.length ps.c1,.int .i64 s.n,.slice ps.A2 s.mr.length ps.c2,.slice ps.A3 s.ed.length ps.c3,.slice AO l.length cO] rfl hg7) fun v7 S' => ?_
 have T7 := Lib.hid S'.out;clear S' T6 hg7;have T8 : (SepW w [eBlk rs 49 [.slice cp.AK K.length cp.cK,.slice cp.AD D.length cp.cD,.slice cp.AR R.length cp.cR,.int .i64 rk,.slice ps.A1 s.al.length ps.c1,.int .i64 s.n,.slice ps.A2 s.mr.length ps.c2,.slice ps.A3 s.ed.length ps.c3,.slice AO l.length cO],eInts K (.slice cp.AK K.length cp.cK),eInts D (.slice cp.AD D.length cp.cD),eRms R (.slice cp.AR R.length cp.cR),eBlk pb 44 [.slice p.A1 a.al.length p.c1,.int .i64 a.n,.slice p.A2 a.mr.length p.c2,.slice p.A3 a.ed.length p.c3,.slice AF fo.length cF,.slice AU unc.length cU],eBlk tb 41 [.slice p.A1 a.al.length p.c1,.int .i64 a.n,.slice p.A2 a.mr.length p.c2,.slice p.A3 a.ed.length p.c3,.slice AF fo.length cF,.slice AU unc.length cU,.slice none 0 0,.int .i64 31],eInts a.al (.slice p.A1 a.al.length p.c1),eInts a.mr (.slice p.A2 a.mr.length p.c2),eEds a.ed (.slice p.A3 a.ed.length p.c3),eInts fo (.slice AF fo.length cF),eInts unc (.slice AU unc.length cU),eBlk xb 34 [.int .u8 f1,.int .u8 a1,.int .i8 y1,.int .u8 f2,.int .u8 a2,.int .i8 y2]] v7) := T7.out.pick [0,1,2,3,8,9,10,11,12,13,14,16] (by decide);clear T7;have f_rs0 := qkC T8.out 0 rfl 0 rfl;have f_rs1 := qkC T8.out 0 rfl 1 rfl;have f_rs2 := qkC T8.out 0 rfl 2 rfl;have f_rs3 := qkC T8.out 0 rfl 3 rfl;have f_rs4 := qkC T8.out 0 rfl 4 rfl;have f_rs5 := qkC T8.out 0 rfl 5 rfl;have f_rs6 := qkC T8.out 0 rfl 6 rfl;have f_rs7 := qkC T8.out 0 rfl 7 rfl;have f_rs8 := qkC T8.out 0 rfl 8 rfl;have f_pb0 := qkC T8.out 4 rfl 0 rfl
 have f_pb1 := qkC T8.out 4 rfl 1 rfl;have f_pb2 := qkC T8.out 4 rfl 2 rfl;have f_pb3 := qkC T8.out 4 rfl 3 rfl;have f_pb4 := qkC T8.out 4 rfl 4 rfl;have f_pb5 := qkC T8.out 4 rfl 5 rfl;go_wp2_with fail
 refine (Kept_c a fo unc ⟨p,AF,cF,AU,cU⟩ K D R cp v7 (⟨(⟨T8.out.ints 6 rfl,T8.out.ints 7 rfl,T8.out.eds 8 rfl,HLN.out.1,HLN.out.2.1,HLN.out.2.2⟩ : Au.At v7 a p),T8.out.ints 9 rfl,T8.out.ints 10 rfl,HFL.out,HUL.out⟩ : PrAt v7 a fo unc ⟨p,AF,cF,AU,cU⟩) (⟨T8.out.ints 1 rfl,T8.out.ints 2 rfl,Own.reads (fun _ => rfl) (T8.out.get 3 rfl),by have := HKL.out; omega,by have := HKL.out; omega,by have := HKL.out; omega⟩ : CeAt v7 K D R cp) (by have := HEL.out; omega)).mono ?_;intro e9 v9 hs;obtain ⟨rfl,hb⟩ := hs.yes2 (HK.out);have T9 := Lib.hid (T8.out.next hb);clear f_rs0 f_rs1 f_rs2 f_rs3 f_rs4 f_rs5 f_rs6 f_rs7 f_rs8 f_pb0 f_pb1 f_pb2 f_pb3 f_pb4 f_pb5 hb hs T8;have f_rs0 := qkC T9.out 0 rfl 0 rfl;have f_rs1 := qkC T9.out 0 rfl 1 rfl;have f_rs2 := qkC T9.out 0 rfl 2 rfl;have f_rs3 := qkC T9.out 0 rfl 3 rfl;have f_rs4 := qkC T9.out 0 rfl 4 rfl;have f_rs5 := qkC T9.out 0 rfl 5 rfl;have f_rs6 := qkC T9.out 0 rfl 6 rfl;have f_rs7 := qkC T9.out 0 rfl 7 rfl;have f_rs8 := qkC T9.out 0 rfl 8 rfl;have f_xb0 := qkC T9.out 11 rfl 0 rfl;have f_xb1 := qkC T9.out 11 rfl 1 rfl;have f_xb2 := qkC T9.out 11 rfl 2 rfl;have f_xb3 := qkC T9.out 11 rfl 3 rfl;have f_xb4 := qkC T9.out 11 rfl 4 rfl;have f_xb5 := qkC T9.out 11 rfl 5 rfl;go_wp2_with fail
 refine (changedX_c K D R cp f1 a1 y1 v9 (⟨T9.out.ints 1 rfl,T9.out.ints 2 rfl,Own.reads (fun _ => rfl) (T9.out.get 3 rfl),by have := HKL.out; omega,by have := HKL.out; omega,by have := HKL.out; omega⟩ : CeAt v9 K D R cp) (by have := HKL.out; omega) HB1.out.1 HB1.out.2.1 HB1.out.2.2).mono ?_;rintro e10 v10 ⟨K1,D1,R1,AK1,cK1,AD1,cD1,AR1,cR1,rfl,hl1,T⟩;have HL1 : Hid (K1.length ≤ 6 ∧ D1.length ≤ 6 ∧ R1.length ≤ 6) := by have := HKL.out; exact ⟨by omega,by omega,by omega⟩
 clear hl1;have T10 := qkN T9.out T.out;clear f_rs0 f_rs1 f_rs2 f_rs3 f_rs4 f_rs5 f_rs6 f_rs7 f_rs8 f_xb0 f_xb1 f_xb2 f_xb3 f_xb4 f_xb5 T T9;obtain ⟨b1,hg11⟩ : ∃ g,g = v10.heap.size := ⟨_,rfl⟩;go_upto_region 10 with fail
 rw [← hg11];refine wp_world (fun V => (SepW w [eBlk b1 47 [.slice AK1 K1.length cK1,.slice AD1 D1.length cD1,.slice AR1 R1.length cR1],eInts K1 (.slice AK1 K1.length cK1),eInts D1 (.slice AD1 D1.length cD1),eRms R1 (.slice AR1 R1.length cR1),eBlk rs 49 [.slice cp.AK K.length cp.cK,.slice cp.AD D.length cp.cD,.slice cp.AR R.length cp.cR,.int .i64 rk,.slice ps.A1 s.al.length ps.c1,.int .i64 s.n,.slice ps.A2 s.mr.length ps.c2,.slice ps.A3 s.ed.length ps.c3,.slice AO l.length cO],eInts K (.slice cp.AK K.length cp.cK),eInts D (.slice cp.AD D.length cp.cD),eRms R (.slice cp.AR R.length cp.cR),eBlk pb 44 [.slice p.A1 a.al.length p.c1,.int .i64 a.n,.slice p.A2 a.mr.length p.c2,.slice p.A3 a.ed.length p.c3,.slice AF fo.length cF,.slice AU unc.length cU],eBlk tb 41 [.slice p.A1 a.al.length p.c1,.int .i64 a.n,.slice p.A2 a.mr.length p.c2,.slice p.A3 a.ed.length p.c3,.slice AF fo.length cF,.slice AU unc.length cU,.slice none 0 0,.int .i64 31],eInts a.al (.slice p.A1 a.al.length p.c1),eInts a.mr (.slice p.A2 a.mr.length p.c2),eEds a.ed (.slice p.A3 a.ed.length p.c3),eInts fo (.slice AF fo.length cF),eInts unc (.slice AU unc.length cU),eBlk xb 34 [.int .u8 f1,.int .u8 a1,.int .i8 y1,.int .u8 f2,.int .u8 a2,.int .i8 y2]] V)) (T10.out.alloc' 47 [.slice AK1 K1.length cK1,.slice AD1 D1.length cD1,.slice AR1 R1.length cR1] rfl hg11) fun v11 S' => ?_;have T11 := Lib.hid S'.out;clear S' T10 hg11;have f_b10 := qkC T11.out 0 rfl 0 rfl;have f_b11 := qkC T11.out 0 rfl 1 rfl
 have f_b12 := qkC T11.out 0 rfl 2 rfl;have f_xb0 := qkC T11.out 15 rfl 0 rfl;have f_xb1 := qkC T11.out 15 rfl 1 rfl;have f_xb2 := qkC T11.out 15 rfl 2 rfl;have f_xb3 := qkC T11.out 15 rfl 3 rfl;have f_xb4 := qkC T11.out 15 rfl 4 rfl;have f_xb5 := qkC T11.out 15 rfl 5 rfl;go_wp2_with fail
 refine (changedX_c K1 D1 R1 ⟨AK1,cK1,AD1,cD1,AR1,cR1⟩ f2 a2 y2 v11 (⟨T11.out.ints 1 rfl,T11.out.ints 2 rfl,Own.reads (fun _ => rfl) (T11.out.get 3 rfl),by have := HL1.out; omega,by have := HL1.out; omega,by have := HL1.out; omega⟩ : CeAt v11 K1 D1 R1 ⟨AK1,cK1,AD1,cD1,AR1,cR1⟩) (by have := HL1.out; omega) HB2.out.1 HB2.out.2.1 HB2.out.2.2).mono ?_;rintro e12 v12 ⟨K2,D2,R2,AK2,cK2,AD2,cD2,AR2,cR2,rfl,hl2,T⟩;have HL2 : Hid (K2.length ≤ 7 ∧ D2.length ≤ 7 ∧ R2.length ≤ 7) := by have := HL1.out; exact ⟨by omega,by omega,by omega⟩
 clear hl2;have T12 := qkN T11.out T.out;clear f_b10 f_b11 f_b12 f_xb0 f_xb1 f_xb2 f_xb3 f_xb4 f_xb5 T T11;obtain ⟨b2,hg13⟩ : ∃ g,g = v12.heap.size := ⟨_,rfl⟩;go_upto_region 11 with fail
 rw [← hg13]
 refine wp_world (fun V => (SepW w [eBlk b2 47 [.slice AK2 K2.length cK2,.slice AD2 D2.length cD2,.slice AR2 R2.length cR2],eInts K2 (.slice AK2 K2.length cK2),eInts D2 (.slice AD2 D2.length cD2),eRms R2 (.slice AR2 R2.length cR2),eBlk b1 47 [.slice AK1 K1.length cK1,.slice AD1 D1.length cD1,.slice AR1 R1.length cR1],eInts K1 (.slice AK1 K1.length cK1),eInts D1 (.slice AD1 D1.length cD1),eRms R1 (.slice AR1 R1.length cR1),eBlk rs 49 [.slice cp.AK K.length cp.cK,.slice cp.AD D.length cp.cD,.slice cp.AR R.length cp.cR,.int .i64 rk,.slice ps.A1 s.al.length ps.c1,.int .i64 s.n,.slice ps.A2 s.mr.length ps.c2,.slice ps.A3 s.ed.length ps.c3,.slice AO l.length cO],eInts K (.slice cp.AK K.length cp.cK),eInts D (.slice cp.AD D.length cp.cD),eRms R (.slice cp.AR R.length cp.cR),eBlk pb 44 [.slice p.A1 a.al.length p.c1,.int .i64 a.n,.slice p.A2 a.mr.length p.c2,.slice p.A3 a.ed.length p.c3,.slice AF fo.length cF,.slice AU unc.length cU],eBlk tb 41 [.slice p.A1 a.al.length p.c1,.int .i64 a.n,.slice p.A2 a.mr.length p.c2,.slice p.A3 a.ed.length p.c3,.slice AF fo.length cF,.slice AU unc.length cU,.slice none 0 0,.int .i64 31],eInts a.al (.slice p.A1 a.al.length p.c1),eInts a.mr (.slice p.A2 a.mr.length p.c2),eEds a.ed (.slice p.A3 a.ed.length p.c3),eInts fo (.slice AF fo.length cF),eInts unc (.slice AU unc.length cU),eBlk xb 34 [.int .u8 f1,.int .u8 a1,.int .i8 y1,.int .u8 f2,.int .u8 a2,.int .i8 y2]] V)) (T12.out.alloc' 47 [.slice AK2 K2.length cK2,.slice AD2 D2.length cD2,.slice AR2 R2.length cR2] rfl hg13) fun v13 S' => ?_
 have T13 := Lib.hid S'.out;clear S' T12 hg13;have f_b10 := qkC T13.out 4 rfl 0 rfl;have f_b11 := qkC T13.out 4 rfl 1 rfl;have f_b12 := qkC T13.out 4 rfl 2 rfl;have f_b20 := qkC T13.out 0 rfl 0 rfl;have f_b21 := qkC T13.out 0 rfl 1 rfl;have f_b22 := qkC T13.out 0 rfl 2 rfl;obtain ⟨lb,hlb⟩ : ∃ g,g = v13.heap.size := ⟨_,rfl⟩;have TL := Lib.hid (T13.out.alloc' 47 [.slice AK1 K1.length cK1,.slice AD1 D1.length cD1,.slice AR1 R1.length cR1,.slice AK2 K2.length cK2,.slice AD2 D2.length cD2,.slice AR2 R2.length cR2,.slice none 0 0,.slice none 0 0,.slice none 0 0] rfl hlb);go_wp2_with fail
 rw [← hlb];clear hlb;clear f_b10 f_b11 f_b12 f_b20 f_b21 f_b22 T13;go_loopw [59] (fun vi wr => ∃ i : Nat,vi = .int .i64 ↑i ∧ i ≤ 3 ∧ (SepW w [eBlk lb 47 [.slice AK1 K1.length cK1,.slice AD1 D1.length cD1,.slice AR1 R1.length cR1,.slice AK2 K2.length cK2,.slice AD2 D2.length cD2,.slice AR2 R2.length cR2,.slice none 0 0,.slice none 0 0,.slice none 0 0],eInts K1 (.slice AK1 K1.length cK1),eInts D1 (.slice AD1 D1.length cD1),eRms R1 (.slice AR1 R1.length cR1),eInts K2 (.slice AK2 K2.length cK2),eInts D2 (.slice AD2 D2.length cD2),eRms R2 (.slice AR2 R2.length cR2),eBlk pb 44 [.slice p.A1 a.al.length p.c1,.int .i64 a.n,.slice p.A2 a.mr.length p.c2,.slice p.A3 a.ed.length p.c3,.slice AF fo.length cF,.slice AU unc.length cU],eBlk tb 41 [.slice p.A1 a.al.length p.c1,.int .i64 a.n,.slice p.A2 a.mr.length p.c2,.slice p.A3 a.ed.length p.c3,.slice AF fo.length cF,.slice AU unc.length cU,.slice none 0 0,.int .i64 31],eInts a.al (.slice p.A1 a.al.length p.c1),eInts a.mr (.slice p.A2 a.mr.length p.c2),eEds a.ed (.slice p.A3 a.ed.length p.c3),eInts fo (.slice AF fo.length cF),eInts unc (.slice AU unc.length cU)] wr)) (fun vi _ => 3 - (intOf vi).toNat)
 case atStart => exact ⟨0,rfl,by omega,TL.out.pick [0,6,7,8,2,3,4,13,14,15,16,17,18,19] (by decide)⟩
 case round =>
  clear TL;obtain ⟨i,rfl,hi,S⟩ := hrel;by_cases hlt : i < 3
  · skip;obtain ⟨K9,D9,R9,q9,h0,h1,h2,HCE⟩ : ∃ (K9 D9 : List Int) (R9 : List Rm) (q9 : CeP),([.slice AK1 K1.length cK1,.slice AD1 D1.length cD1,.slice AR1 R1.length cR1,.slice AK2 K2.length cK2,.slice AD2 D2.length cD2,.slice AR2 R2.length cR2,.slice none 0 0,.slice none 0 0,.slice none 0 0] : List Value)[i * 3 + 0]? = some (.slice q9.AK K9.length q9.cK) ∧ ([.slice AK1 K1.length cK1,.slice AD1 D1.length cD1,.slice AR1 R1.length cR1,.slice AK2 K2.length cK2,.slice AD2 D2.length cD2,.slice AR2 R2.length cR2,.slice none 0 0,.slice none 0 0,.slice none 0 0] : List Value)[i * 3 + 1]? = some (.slice q9.AD D9.length q9.cD) ∧ ([.slice AK1 K1.length cK1,.slice AD1 D1.length cD1,.slice AR1 R1.length cR1,.slice AK2 K2.length cK2,.slice AD2 D2.length cD2,.slice AR2 R2.length cR2,.slice none 0 0,.slice none 0 0,.slice none 0 0] : List Value)[i * 3 + 2]? = some (.slice q9.AR R9.length q9.cR) ∧ Hid (CeAt wr K9 D9 R9 q9) := by
     rcases (show i = 0 ∨ i = 1 ∨ i = 2 by omega) with rfl | rfl | rfl
     · exact ⟨K1,D1,R1,⟨AK1,cK1,AD1,cD1,AR1,cR1⟩,rfl,rfl,rfl,(⟨S.out.ints 1 rfl,S.out.ints 2 rfl,Own.reads (fun _ => rfl) (S.out.get 3 rfl),by have := HL1.out; omega,by have := HL1.out; omega,by have := HL1.out; omega⟩ : CeAt wr K1 D1 R1 ⟨AK1,cK1,AD1,cD1,AR1,cR1⟩)⟩
     · exact ⟨K2,D2,R2,⟨AK2,cK2,AD2,cD2,AR2,cR2⟩,rfl,rfl,rfl,(⟨S.out.ints 4 rfl,S.out.ints 5 rfl,Own.reads (fun _ => rfl) (S.out.get 6 rfl),by have := HL2.out; omega,by have := HL2.out; omega,by have := HL2.out; omega⟩ : CeAt wr K2 D2 R2 ⟨AK2,cK2,AD2,cD2,AR2,cR2⟩)⟩
     · exact ⟨[],[],[],⟨none,0,none,0,none,0⟩,rfl,rfl,rfl,⟨SlAt.nil,SlAt.nil,SlAt.nil,by simp,by simp,by simp⟩⟩
    have l0 := (BlkAt.cell (S.out.get 0 rfl) (i * 3)).trans h0;have l1 := (BlkAt.cell (S.out.get 0 rfl) (i * 3 + 1)).trans h1;have l2 := (BlkAt.cell (S.out.get 0 rfl) (i * 3 + 2)).trans h2;clear h0 h1 h2;have hiz : (i : Int) < 3 := by omega
    have HC0 := Lib.hid S.out.below;have S0 := Lib.hid S.out;have HCB : Hid (∀ V,Below wr.heap.size wr V → CeAt V K9 D9 R9 q9) := fun V hb => HCE.out.below hb;clear HCE HC0;obtain ⟨qb,hqb⟩ : ∃ g,g = wr.heap.size := ⟨_,rfl⟩;go_upto_region 14 with fail
    rw [← hqb];refine wp_world (fun V => Sep w.heap.size w [eBlk qb 47 [.slice q9.AK K9.length q9.cK,.slice q9.AD D9.length q9.cD,.slice q9.AR R9.length q9.cR],eBlk lb 47 [.slice AK1 K1.length cK1,.slice AD1 D1.length cD1,.slice AR1 R1.length cR1,.slice AK2 K2.length cK2,.slice AD2 D2.length cD2,.slice AR2 R2.length cR2,.slice none 0 0,.slice none 0 0,.slice none 0 0],eInts K1 (.slice AK1 K1.length cK1),eInts D1 (.slice AD1 D1.length cD1),eRms R1 (.slice AR1 R1.length cR1),eInts K2 (.slice AK2 K2.length cK2),eInts D2 (.slice AD2 D2.length cD2),eRms R2 (.slice AR2 R2.length cR2),eBlk pb 44 [.slice p.A1 a.al.length p.c1,.int .i64 a.n,.slice p.A2 a.mr.length p.c2,.slice p.A3 a.ed.length p.c3,.slice AF fo.length cF,.slice AU unc.length cU],eBlk tb 41 [.slice p.A1 a.al.length p.c1,.int .i64 a.n,.slice p.A2 a.mr.length p.c2,.slice p.A3 a.ed.length p.c3,.slice AF fo.length cF,.slice AU unc.length cU,.slice none 0 0,.int .i64 31],eInts a.al (.slice p.A1 a.al.length p.c1),eInts a.mr (.slice p.A2 a.mr.length p.c2),eEds a.ed (.slice p.A3 a.ed.length p.c3),eInts fo (.slice AF fo.length cF),eInts unc (.slice AU unc.length cU)] V ∧ CeAt V K9 D9 R9 q9) ⟨S.out.alloc' 47 [.slice q9.AK K9.length q9.cK,.slice q9.AD D9.length q9.cD,.slice q9.AR R9.length q9.cR] rfl hqb,HCB.out _ (Below.new _ _)⟩ fun v7 S' => ?_;have S7 := Lib.hid S'.1;have HC7 := Lib.hid S'.2;clear S' S S0 hqb l0 l1 l2 HCB
    go_cut [69] (fun v69 wx => v69 = .bool false ∧ (SepW w [eBlk qb 47 [.slice q9.AK K9.length q9.cK,.slice q9.AD D9.length q9.cD,.slice q9.AR R9.length q9.cR],eBlk lb 47 [.slice AK1 K1.length cK1,.slice AD1 D1.length cD1,.slice AR1 R1.length cR1,.slice AK2 K2.length cK2,.slice AD2 D2.length cD2,.slice AR2 R2.length cR2,.slice none 0 0,.slice none 0 0,.slice none 0 0],eInts K1 (.slice AK1 K1.length cK1),eInts D1 (.slice AD1 D1.length cD1),eRms R1 (.slice AR1 R1.length cR1),eInts K2 (.slice AK2 K2.length cK2),eInts D2 (.slice AD2 D2.length cD2),eRms R2 (.slice AR2 R2.length cR2),eBlk pb 44 [.slice p.A1 a.al.length p.c1,.int .i64 a.n,.slice p.A2 a.mr.length p.c2,.slice p.A3 a.ed.length p.c3,.slice AF fo.length cF,.slice AU unc.length cU],eBlk tb 41 [.slice p.A1 a.al.length p.c1,.int .i64 a.n,.slice p.A2 a.mr.length p.c2,.slice p.A3 a.ed.length p.c3,.slice AF fo.length cF,.slice AU unc.length cU,.slice none 0 0,.int .i64 31],eInts a.al (.slice p.A1 a.al.length p.c1),eInts a.mr (.slice p.A2 a.mr.length p.c2),eEds a.ed (.slice p.A3 a.ed.length p.c3),eInts fo (.slice AF fo.length cF),eInts unc (.slice AU unc.length cU)] wx))
    case first =>
     have S1 := Lib.hid S7.out.drew;refine wp_region_held_drew (S := (fun V => Sep w.heap.size w [eBlk pb 44 [.slice p.A1 a.al.length p.c1,.int .i64 a.n,.slice p.A2 a.mr.length p.c2,.slice p.A3 a.ed.length p.c3,.slice AF fo.length cF,.slice AU unc.length cU],eBlk qb 47 [.slice q9.AK K9.length q9.cK,.slice q9.AD D9.length q9.cD,.slice q9.AR R9.length q9.cR],eBlk tb 41 [.slice p.A1 a.al.length p.c1,.int .i64 a.n,.slice p.A2 a.mr.length p.c2,.slice p.A3 a.ed.length p.c3,.slice AF fo.length cF,.slice AU unc.length cU,.slice none 0 0,.int .i64 31]] V)) (by kernel_rfl) ?_ (fun hH => ?_)
     · exact S1.out.pick [8,0,9] (by decide)
     have HC8 : Hid (CeAt v7.drew K9 D9 R9 q9) := HC7.out.below ⟨rfl,rfl,rfl,Nat.le_refl _,fun _ _ => rfl⟩;clear HC7;generalize hwz : v7.drew = w1 at *;clear hwz;refine tkH 0 rfl (v := ?_) (by kernel_rfl) ?_ hH ?_;rotate_left
     · intro V hs_;have p0 := qkC hs_ 0 rfl 0 rfl;have p1 := qkC hs_ 0 rfl 1 rfl;have p2 := qkC hs_ 0 rfl 2 rfl;have p3 := qkC hs_ 0 rfl 3 rfl;have p4 := qkC hs_ 0 rfl 4 rfl;have p5 := qkC hs_ 0 rfl 5 rfl;clear hs_;first | (go_simp; done) | (go_simp; with_reducible rfl)
     (try simp only [sx]);refine tkH 1 rfl (v := ?_) (by kernel_rfl) ?_ hH ?_;rotate_left
     · intro V hs_;have q0 := qkC hs_ 1 rfl 0 rfl;have q1 := qkC hs_ 1 rfl 1 rfl;have q2 := qkC hs_ 1 rfl 2 rfl;clear hs_;first | (go_simp; done) | (go_simp; with_reducible rfl)
     (try simp only [sx]);refine tkH 3 rfl (v := ?_) (by kernel_rfl) ?_ hH ?_;rotate_left
     · intro V hs_;have t0 := qkC hs_ 2 rfl 0 rfl;have t1 := qkC hs_ 2 rfl 1 rfl;have t2 := qkC hs_ 2 rfl 2 rfl;have t3 := qkC hs_ 2 rfl 3 rfl;have t4 := qkC hs_ 2 rfl 4 rfl;have t5 := qkC hs_ 2 rfl 5 rfl;have t6 := qkC hs_ 2 rfl 6 rfl;have t7 := qkC hs_ 2 rfl 7 rfl;clear hs_;first | (go_simp; done) | (go_simp; with_reducible rfl)
     (try simp only [sx]);refine tkH 4 rfl (v := ?_) (by kernel_rfl) ?_ hH ?_;rotate_left
     · intro V hs_;have q0 := qkC hs_ 1 rfl 0 rfl;have q1 := qkC hs_ 1 rfl 1 rfl;have q2 := qkC hs_ 1 rfl 2 rfl;clear hs_;first | (go_simp; done) | (go_simp; with_reducible rfl)
     (try simp only [sx]);refine rdH 2 rfl fun K hK => ?_;go_simp;refine (Kept_c a fo unc ⟨p,AF,cF,AU,cU⟩ K9 D9 R9 q9 w1 (⟨(⟨S1.out.ints 10 rfl,S1.out.ints 11 rfl,S1.out.eds 12 rfl,HLN.out.1,HLN.out.2.1,HLN.out.2.2⟩ : Au.At w1 a p),S1.out.ints 13 rfl,S1.out.ints 14 rfl,HFL.out,HUL.out⟩ : PrAt w1 a fo unc ⟨p,AF,cF,AU,cU⟩) HC8.out (by have := HEL.out; omega)).mono ?_;rintro e_ w2 ⟨r1,rfl,hr1,hb⟩;have S2 := Lib.hid (S1.out.next hb);have HC2c := Lib.hid (HC8.out.below hb);have HR1 := Lib.hid hr1;clear hb hr1;refine hK.out _ _ (S2.out.pick [8,0,9] (by decide)) fun hH => ?_;clear hK K;(try simp only [sx]);refine rdH 5 rfl fun K hK => ?_;go_simp;refine (ProvesZ_c a fo unc ⟨p,AF,cF,AU,cU⟩ K9 D9 R9 q9 w2 (⟨(⟨S2.out.ints 10 rfl,S2.out.ints 11 rfl,S2.out.eds 12 rfl,HLN.out.1,HLN.out.2.1,HLN.out.2.2⟩ : Au.At w2 a p),S2.out.ints 13 rfl,S2.out.ints 14 rfl,HFL.out,HUL.out⟩ : PrAt w2 a fo unc ⟨p,AF,cF,AU,cU⟩) HC2c.out HPR.out 31 hev.out).mono ?_;rintro e_ w3 ⟨r2,rfl,hr2,hb⟩;have S3 := Lib.hid (S2.out.next hb);have HC3c := Lib.hid (HC2c.out.below hb);have HR2 := Lib.hid hr2;clear hb hr2;refine hK.out _ _ (S3.out.pick [8,0,9] (by decide)) fun hH => ?_;clear hK K;(try simp only [sx]);refine tkP 6 rfl (v := ?_) hH ?_;(try simp only [sx]);refine wpAnyH_done (by kernel_rfl) ?_ _;obtain rfl : r2 = r1 := by
      have e1 := HR1.out;have e2 := HR2.out;cases r1 <;> cases r2 <;> first | rfl | (exact absurd (e1.2 (e2.1 rfl)) (by decide)) | (exact absurd (e2.2 (e1.1 rfl)) (by decide))
     clear HR1 HR2;cases r2
     · skip;go_wp2_with fail
       go_meet
       exact ⟨rfl,S3.out⟩
     · skip;go_wp2_with fail
       go_meet
       exact ⟨rfl,S3.out⟩
    case rest =>
     clear S7;obtain ⟨rfl,S8⟩ := hcut;go_wp2_with fail
     go_roundw
     case rel => exact ⟨i + 1,by go_num,by omega,S8.out.pick [1,2,3,4,5,6,7,8,9,10,11,12,13,14] (by decide)⟩
     case measure => simp [intOf]; omega
  · obtain rfl : i = 3 := by omega
    go_wp2_with fail
    go_ret
    exact ⟨rfl,S.out.below⟩
section
open Go.ChangeShapes Go.WideShapes Go.ChangeAt Go.RowKit

section
variable {H : Type} {enc : TypeId × Value → H} {w : World} {base : Nat} {spare : Nat → Bool} {held : Bool}

theorem u8_bounds {n : Int} (h : (Lit.int .u8 n).wf = true) : 0 ≤ n ∧ n < 256 := by
 simp [Lit.wf,IntKind.min,IntKind.max,IntKind.signed,IntKind.bits] at h; omega
theorem list5 {α : Type} {cs : List α} (h : cs.length = 5) : ∃ c0 c1 c2 c3 c4,cs = [c0,c1,c2,c3,c4] := by
 match cs,h with
 | [c0,c1,c2,c3,c4],_ => exact ⟨c0,c1,c2,c3,c4,rfl⟩
theorem cut5 {α : Type} {cs : List α} (h : cs.length = 25) : cs = (cs.drop 0).take 5 ++ ((cs.drop 5).take 5 ++ ((cs.drop 10).take 5 ++ ((cs.drop 15).take 5 ++ (cs.drop 20).take 5))) := by
 have e4 : (cs.drop 20).take 5 = cs.drop 20 := List.take_of_length_le (by simp [h]);have e3 : (cs.drop 15).take 5 ++ cs.drop 20 = cs.drop 15 := by have := List.take_append_drop 5 (cs.drop 15); rwa [List.drop_drop] at this
 have e2 : (cs.drop 10).take 5 ++ cs.drop 15 = cs.drop 10 := by have := List.take_append_drop 5 (cs.drop 10); rwa [List.drop_drop] at this
 have e1 : (cs.drop 5).take 5 ++ cs.drop 10 = cs.drop 5 := by have := List.take_append_drop 5 (cs.drop 5); rwa [List.drop_drop] at this
 rw [e4,e3,e2,e1,List.drop_zero,List.take_append_drop]

theorem b5_of {P : Program} {t e : TypeId} (ht : P.underlying t = some (.array 5 e)) (he : P.underlying e = some (.int .u8)) (hc : P.cellsOf t = 5) (hce : P.cellsOf e = 1) {fuel : Nat} {cs : List Value} {x : DataW H × List MemPlace}
 (h : DataW.trod enc P w base spare held fuel t cs = some x) : ∃ f : B5,f.Ok ∧ cs = f.cells := by
 obtain ⟨xs,m,_,_,hl,hlen,hf⟩ := DataW.trod_array ht h;obtain ⟨c0,c1,c2,c3,c4,rfl⟩ := list5 (hl.trans hc);have g : ∀ i,i < 5 → ∀ c,([c0,c1,c2,c3,c4].drop i).take 1 = [c] → ∃ n,c = .int .u8 n ∧ 0 ≤ n ∧ n < 256 := fun i hi c hcc => by
  have h1 := hf i hi;rw [hce,Nat.mul_one,hcc,List.getElem?_eq_getElem (by omega)] at h1;obtain ⟨n,hn,_,hw⟩ := DataW.trod_int he h1;cases hn;exact ⟨n,rfl,u8_bounds hw⟩
 obtain ⟨x0,rfl,b0⟩ := g 0 (by omega) c0 rfl;obtain ⟨x1,rfl,b1⟩ := g 1 (by omega) c1 rfl;obtain ⟨x2,rfl,b2⟩ := g 2 (by omega) c2 rfl;obtain ⟨x3,rfl,b3⟩ := g 3 (by omega) c3 rfl;obtain ⟨x4,rfl,b4⟩ := g 4 (by omega) c4 rfl;exact ⟨⟨x0,x1,x2,x3,x4⟩,⟨fun x hx => by
  simp only [List.mem_cons,List.not_mem_nil,or_false] at hx;rcases hx with rfl | rfl | rfl | rfl | rfl <;> assumption⟩,rfl⟩

theorem b25_of {P : Program} {t e e' : TypeId} (ht : P.underlying t = some (.array 5 e)) (he : P.underlying e = some (.array 5 e')) (he' : P.underlying e' = some (.int .u8)) (hc : P.cellsOf t = 25) (hce : P.cellsOf e = 5) (hce' : P.cellsOf e' = 1) {fuel : Nat} {cs : List Value} {x : DataW H × List MemPlace}
 (h : DataW.trod enc P w base spare held fuel t cs = some x) : ∃ r0 r1 r2 r3 r4 : B5,r0.Ok ∧ r1.Ok ∧ r2.Ok ∧ r3.Ok ∧ r4.Ok ∧ cs = r0.cells ++ (r1.cells ++ (r2.cells ++ (r3.cells ++ r4.cells))) := by
 obtain ⟨xs,m,_,_,hl,hlen,hf⟩ := DataW.trod_array ht h;have g : ∀ i,i < 5 → ∃ f : B5,f.Ok ∧ (cs.drop (i * 5)).take 5 = f.cells := fun i hi => by
  have h1 := hf i hi;rw [hce,List.getElem?_eq_getElem (by omega)] at h1;exact b5_of he he' hce hce' h1
 obtain ⟨r0,o0,e0⟩ := g 0 (by omega);obtain ⟨r1,o1,e1⟩ := g 1 (by omega);obtain ⟨r2,o2,e2⟩ := g 2 (by omega);obtain ⟨r3,o3,e3⟩ := g 3 (by omega);obtain ⟨r4,o4,e4⟩ := g 4 (by omega);refine ⟨r0,r1,r2,r3,r4,o0,o1,o2,o3,o4,?_⟩;rw [← e0,← e1,← e2,← e3,← e4];exact cut5 (hl.trans hc)

end
end
section
open Go.ChangeShapes Go.WideShapes Go.ChangeAt Go.RowKit

section
variable {H : Type} {enc : TypeId × Value → H} {P : Program} {w : World} {base : Nat} {spare : Nat → Bool} {held : Bool}

def consec (P : Program) : List Field → Nat → Nat → Bool
 | [],n,m => n == m
 | f :: r,n,m => f.offset == n && consec P r (n + P.cellsOf f.type) m
theorem consec_cut {P : Program} : ∀ (fs : List Field) (n m : Nat) (cs : List Value),consec P fs n m = true → cs.length = m →
 n ≤ m ∧ cs.drop n = (fs.map fun f => (cs.drop f.offset).take (P.cellsOf f.type)).flatten ∧ ∀ f,f ∈ fs → ((cs.drop f.offset).take (P.cellsOf f.type)).length = P.cellsOf f.type := by
 intro fs;induction fs with
 | nil =>
   intro n m cs h hl;have : n = m := by simpa [consec] using h
   subst this;exact ⟨Nat.le_refl _,by simp [hl],fun f hf => by cases hf⟩
 | cons f r ih =>
   intro n m cs h hl;simp only [consec,Bool.and_eq_true,beq_iff_eq] at h;obtain ⟨h1,h2⟩ := h;obtain ⟨g1,g2,g3⟩ := ih _ _ cs h2 hl;refine ⟨by omega,?_,fun x hx => ?_⟩
   · simp only [List.map_cons,List.flatten_cons];rw [← g2,h1,← List.drop_drop,List.take_append_drop]
   · rcases List.mem_cons.1 hx with rfl | hx
     · rw [List.length_take,List.length_drop]; omega
     · exact g3 x hx

theorem st_of {t : TypeId} {fs : List Field} (ht : P.underlying t = some (.struct fs.toArray)) (hc : consec P fs 0 (P.cellsOf t) = true) {fuel : Nat} {cs : List Value} {x : DataW H × List MemPlace}
 (h : DataW.trod enc P w base spare held fuel t cs = some x) :
 ∃ css : List (List Value),cs = css.flatten ∧ css.length = fs.length ∧ ∀ (i : Nat) (f : Field),fs[i]? = some f → ∃ (c : List Value) (y : DataW H × List MemPlace) (n : Nat),css[i]? = some c ∧ c.length = P.cellsOf f.type ∧ DataW.trod enc P w base spare held n f.type c = some y := by
 obtain ⟨xs,n,_,_,hl,hlen,hf⟩ := DataW.trod_struct ht h;obtain ⟨_,g2,g3⟩ := consec_cut fs 0 _ cs hc hl;refine ⟨fs.map fun f => (cs.drop f.offset).take (P.cellsOf f.type),by simpa using g2,by simp,fun i f hfi => ?_⟩;have h1 := hf i f (by simpa using hfi);have hi : i < fs.length := (List.getElem?_eq_some_iff.1 hfi).1;rw [List.getElem?_eq_getElem (by simp at hlen; omega)] at h1;exact ⟨_,_,n,by rw [List.getElem?_map,hfi]; rfl,g3 f (List.mem_of_getElem? hfi),h1⟩
theorem st2_of {t : TypeId} {f0 f1 : Field} (ht : P.underlying t = some (.struct #[f0,f1])) (hc : consec P [f0,f1] 0 (P.cellsOf t) = true) {fuel : Nat} {cs : List Value} {x : DataW H × List MemPlace}
 (h : DataW.trod enc P w base spare held fuel t cs = some x) :
 ∃ (c0 c1 : List Value) (y0 y1 : DataW H × List MemPlace) (n0 n1 : Nat),cs = c0 ++ c1 ∧ DataW.trod enc P w base spare held n0 f0.type c0 = some y0 ∧ DataW.trod enc P w base spare held n1 f1.type c1 = some y1 := by
 obtain ⟨css,rfl,hl,hf⟩ := st_of (fs := [f0,f1]) ht hc h;match css,hl with
 | [c0,c1],_ =>
   obtain ⟨_,y0,n0,e0,_,t0⟩ := hf 0 f0 rfl;obtain ⟨_,y1,n1,e1,_,t1⟩ := hf 1 f1 rfl;cases e0; cases e1
   exact ⟨c0,c1,y0,y1,n0,n1,by simp,t0,t1⟩
theorem st3_of {t : TypeId} {f0 f1 f2 : Field} (ht : P.underlying t = some (.struct #[f0,f1,f2])) (hc : consec P [f0,f1,f2] 0 (P.cellsOf t) = true) {fuel : Nat} {cs : List Value} {x : DataW H × List MemPlace}
 (h : DataW.trod enc P w base spare held fuel t cs = some x) :
 ∃ (c0 c1 c2 : List Value) (y0 y1 y2 : DataW H × List MemPlace) (n0 n1 n2 : Nat),cs = c0 ++ (c1 ++ c2) ∧ DataW.trod enc P w base spare held n0 f0.type c0 = some y0 ∧ DataW.trod enc P w base spare held n1 f1.type c1 = some y1 ∧ DataW.trod enc P w base spare held n2 f2.type c2 = some y2 := by
 obtain ⟨css,rfl,hl,hf⟩ := st_of (fs := [f0,f1,f2]) ht hc h;match css,hl with
 | [c0,c1,c2],_ =>
   obtain ⟨_,y0,n0,e0,_,t0⟩ := hf 0 f0 rfl;obtain ⟨_,y1,n1,e1,_,t1⟩ := hf 1 f1 rfl;obtain ⟨_,y2,n2,e2,_,t2⟩ := hf 2 f2 rfl;cases e0; cases e1; cases e2
   exact ⟨c0,c1,c2,y0,y1,y2,n0,n1,n2,by simp,t0,t1,t2⟩
theorem st4_of {t : TypeId} {f0 f1 f2 f3 : Field} (ht : P.underlying t = some (.struct #[f0,f1,f2,f3])) (hc : consec P [f0,f1,f2,f3] 0 (P.cellsOf t) = true) {fuel : Nat} {cs : List Value} {x : DataW H × List MemPlace}
 (h : DataW.trod enc P w base spare held fuel t cs = some x) :
 ∃ (c0 c1 c2 c3 : List Value) (y0 y1 y2 y3 : DataW H × List MemPlace) (n0 n1 n2 n3 : Nat),cs = c0 ++ (c1 ++ (c2 ++ c3)) ∧ DataW.trod enc P w base spare held n0 f0.type c0 = some y0 ∧ DataW.trod enc P w base spare held n1 f1.type c1 = some y1 ∧ DataW.trod enc P w base spare held n2 f2.type c2 = some y2 ∧ DataW.trod enc P w base spare held n3 f3.type c3 = some y3 := by
 obtain ⟨css,rfl,hl,hf⟩ := st_of (fs := [f0,f1,f2,f3]) ht hc h;match css,hl with
 | [c0,c1,c2,c3],_ =>
   obtain ⟨_,y0,n0,e0,_,t0⟩ := hf 0 f0 rfl;obtain ⟨_,y1,n1,e1,_,t1⟩ := hf 1 f1 rfl;obtain ⟨_,y2,n2,e2,_,t2⟩ := hf 2 f2 rfl;obtain ⟨_,y3,n3,e3,_,t3⟩ := hf 3 f3 rfl;cases e0; cases e1; cases e2; cases e3
   exact ⟨c0,c1,c2,c3,y0,y1,y2,y3,n0,n1,n2,n3,by simp,t0,t1,t2,t3⟩

end
end
section
open Go.ChangeShapes Go.WideShapes Go.ChangeAt Go.RowKit

theorem own_ : ownKnob Try.prog.godebug = none := by kernel_rfl
theorem laidOut_ : laidOutB Try.prog = true := by kernel_rfl
section
variable {H : Type} {enc : TypeId × Value → H} {w : World} {base : Nat} {spare : Nat → Bool} {held : Bool}
structure AuIn (w : World) (a : Au) (p : AuP) : Prop where
 h1 : IntsAt w p.A1 a.al
 h2 : IntsAt w p.A2 a.mr
 h3 : EdsAt w p.A3 a.ed
 l1 : a.al.length ≤ p.c1
 l2 : a.mr.length ≤ p.c2
 l3 : a.ed.length ≤ p.c3
 m1 : p.c1 ≤ maxLen
 m2 : p.c2 ≤ maxLen
 m3 : p.c3 ≤ maxLen
end
theorem cells_of {H : Type} {enc : TypeId × Value → H} {P : Program} {w : World} {base : Nat} {spare : Nat → Bool} {held : Bool} {t : TypeId} {fs : Array Field} {r : Reach} {b0 : Nat} {v : Value} {d : DataW H} {p : List MemPlace} (ht : P.underlying t = some (.struct fs)) (hv : Value.okWide P w r b0 t v) (h : DataW.Trod enc P w base spare held t v d p) :
 ∃ (cs : List Value) (fuel : Nat),v = .agg cs.toArray ∧ DataW.trod enc P w base spare held fuel t cs = some (d,p) := by
 obtain ⟨⟨cs⟩,rfl,hsz⟩ := okWide_struct ht hv;obtain ⟨fuel,hf⟩ := h;exact ⟨cs,fuel,rfl,by simpa [Value.cells] using hf⟩
theorem acells_of {H : Type} {enc : TypeId × Value → H} {P : Program} {w : World} {base : Nat} {spare : Nat → Bool} {held : Bool} {t e : TypeId} {n : Nat} {r : Reach} {b0 : Nat} {v : Value} {d : DataW H} {p : List MemPlace} (ht : P.underlying t = some (.array n e)) (hv : Value.okWide P w r b0 t v) (h : DataW.Trod enc P w base spare held t v d p) :
 ∃ (cs : List Value) (fuel : Nat),v = .agg cs.toArray ∧ DataW.trod enc P w base spare held fuel t cs = some (d,p) := by
 unfold Value.okWide at hv
 rw [ht] at hv;obtain ⟨⟨cs⟩,rfl,_,_⟩ := hv;obtain ⟨fuel,hf⟩ := h;exact ⟨cs,fuel,rfl,by simpa [Value.cells] using hf⟩
end
section
open Go.ChangeShapes Go.WideShapes Go.ChangeAt Go.RowKit
section
variable {H : Type} {enc : TypeId × Value → H} {w : World} {base : Nat} {spare : Nat → Bool} {held : Bool}
theorem gr_of {fuel : Nat} {cs : List Value} {x : DataW H × List MemPlace} (h : DataW.trod enc Try.prog w base spare held fuel 26 cs = some x) : ∃ g : Gr,g.Ok ∧ cs = g.cells := by
 obtain ⟨xs,n,_,_,hl,hlen,hf⟩ := DataW.trod_struct Try.underlying26 h;have hC : Try.prog.cellsOf 26 = 27 := by kernel_rfl
 have c1 : Try.prog.cellsOf 5 = 1 := by kernel_rfl
 have c25 : Try.prog.cellsOf 24 = 25 := by kernel_rfl
 rw [hC] at hl;have e3 : xs.length = 3 := hlen;have h0 : DataW.trod enc Try.prog w base spare held n 5 ((cs.drop 0).take (Try.prog.cellsOf 5)) = some xs[0] := by
  have := hf 0 _ rfl; rw [List.getElem?_eq_getElem (by omega)] at this; exact this
 rw [c1] at h0;have h1 : DataW.trod enc Try.prog w base spare held n 5 ((cs.drop 1).take (Try.prog.cellsOf 5)) = some xs[1] := by
  have := hf 1 _ rfl; rw [List.getElem?_eq_getElem (by omega)] at this; exact this
 rw [c1] at h1;have h2 : DataW.trod enc Try.prog w base spare held n 24 ((cs.drop 2).take (Try.prog.cellsOf 24)) = some xs[2] := by
  have := hf 2 _ rfl; rw [List.getElem?_eq_getElem (by omega)] at this; exact this
 rw [c25] at h2;obtain ⟨s,hs,_,ws⟩ := DataW.trod_int Try.underlying5 h0;obtain ⟨m,hm,_,wm⟩ := DataW.trod_int Try.underlying5 h1;obtain ⟨r0,r1,r2,r3,r4,o0,o1,o2,o3,o4,hr⟩ := b25_of Try.underlying24 Try.underlying23 Try.underlying5 (by kernel_rfl) (by kernel_rfl) (by kernel_rfl) h2;refine ⟨⟨s,m,r0,r1,r2,r3,r4⟩,⟨u8_bounds ws,u8_bounds wm,o0,o1,o2,o3,o4⟩,?_⟩;have a0 : cs.drop 0 = (cs.drop 0).take 1 ++ cs.drop 1 := by have := List.take_append_drop 1 (cs.drop 0); rw [List.drop_drop] at this; exact this.symm
 have a1 : cs.drop 1 = (cs.drop 1).take 1 ++ cs.drop 2 := by have := List.take_append_drop 1 (cs.drop 1); rw [List.drop_drop] at this; exact this.symm
 have a2 : (cs.drop 2).take 25 = cs.drop 2 := List.take_of_length_le (by simp [hl]);rw [hr] at a2;rw [← a2,hm] at a1;rw [a1,hs] at a0;rw [← List.drop_zero (l := cs),a0];rfl
theorem i8_bounds {n : Int} (h : (Lit.int .i8 n).wf = true) : -128 ≤ n ∧ n < 128 := by
 simp [Lit.wf,IntKind.min,IntKind.max,IntKind.signed,IntKind.bits] at h; omega
theorem u8_of {P : Program} {t : TypeId} (he : P.underlying t = some (.int .u8)) {fuel : Nat} {cs : List Value} {x : DataW H × List MemPlace} (h : DataW.trod enc P w base spare held fuel t cs = some x) : ∃ n : Int,cs = [.int .u8 n] ∧ 0 ≤ n ∧ n < 256 := by
 obtain ⟨k,hk,_,hw⟩ := DataW.trod_int he h;exact ⟨k,hk,u8_bounds hw⟩
theorem i8_of {P : Program} {t : TypeId} (he : P.underlying t = some (.int .i8)) {fuel : Nat} {cs : List Value} {x : DataW H × List MemPlace} (h : DataW.trod enc P w base spare held fuel t cs = some x) : ∃ n : Int,cs = [.int .i8 n] ∧ -128 ≤ n ∧ n < 128 := by
 obtain ⟨k,hk,_,hw⟩ := DataW.trod_int he h;exact ⟨k,hk,i8_bounds hw⟩
theorem sk_in {v : Value} {d : DataW H} {p : List MemPlace} {r : Reach} {b0 : Nat} (hv : Value.okWide Try.prog w r b0 30 v) (h : DataW.Trod enc Try.prog w base spare held 30 v d p) :
 ∃ (ev : Int) (g : Gr) (fb un fc : Int),v = .agg (skC ev g fb un fc).toArray ∧ (0 ≤ ev ∧ ev < 256) ∧ g.Ok ∧ (0 ≤ fb ∧ fb < 256) ∧ (0 ≤ un ∧ un < 256) ∧ (0 ≤ fc ∧ fc < 256) := by
 obtain ⟨cs,n,rfl,t⟩ := cells_of Try.underlying30 hv h;obtain ⟨c0,c1,c2,c3,_,_,_,_,_,_,_,_,rfl,g0,g1,g2,g3⟩ := st4_of Try.underlying30 (by kernel_rfl) t;obtain ⟨d0,d1,_,_,_,_,rfl,e0,e1⟩ := st2_of Try.underlying28 (by kernel_rfl) g0;obtain ⟨ev,rfl,b0⟩ := u8_of Try.underlying22 e0;obtain ⟨g,og,rfl⟩ := gr_of e1;obtain ⟨fb,rfl,b1⟩ := u8_of Try.underlying5 g1;obtain ⟨un,rfl,b2⟩ := u8_of Try.underlying22 g2;obtain ⟨fc,rfl,b3⟩ := u8_of Try.underlying22 g3;exact ⟨ev,g,fb,un,fc,rfl,b0,og,b1,b2,b3⟩
theorem ch_of {fuel : Nat} {cs : List Value} {x : DataW H × List MemPlace} (h : DataW.trod enc Try.prog w base spare held fuel 33 cs = some x) : ∃ f a y : Int,cs = [.int .u8 f,.int .u8 a,.int .i8 y] ∧ (0 ≤ f ∧ f < 256) ∧ (0 ≤ a ∧ a < 256) ∧ (-128 ≤ y ∧ y < 128) := by
 obtain ⟨c0,c1,c2,_,_,_,_,_,_,rfl,h0,h1,h2⟩ := st3_of Try.underlying33 (by kernel_rfl) h;obtain ⟨f,rfl,b0⟩ := u8_of Try.underlying5 h0;obtain ⟨a,rfl,b1⟩ := u8_of Try.underlying5 h1;obtain ⟨y,rfl,b2⟩ := i8_of Try.underlying31 h2;exact ⟨f,a,y,rfl,b0,b1,b2⟩
theorem cc_in {v : Value} {d : DataW H} {p : List MemPlace} {r : Reach} {b0 : Nat} (hv : Value.okWide Try.prog w r b0 34 v) (h : DataW.Trod enc Try.prog w base spare held 34 v d p) :
 ∃ f1 a1 y1 f2 a2 y2 : Int,v = .agg #[.int .u8 f1,.int .u8 a1,.int .i8 y1,.int .u8 f2,.int .u8 a2,.int .i8 y2] ∧ (0 ≤ f1 ∧ f1 < 256) ∧ (0 ≤ a1 ∧ a1 < 256) ∧ (-128 ≤ y1 ∧ y1 < 128) ∧ (0 ≤ f2 ∧ f2 < 256) ∧ (0 ≤ a2 ∧ a2 < 256) ∧ (-128 ≤ y2 ∧ y2 < 128) := by
 obtain ⟨cs,fuel,rfl,hq⟩ := acells_of Try.underlying34 hv h;obtain ⟨xs,m,_,_,hl,hlen,hf⟩ := DataW.trod_array Try.underlying34 hq;have hc : Try.prog.cellsOf 33 = 3 := by kernel_rfl
 have hc2 : Try.prog.cellsOf 34 = 6 := by kernel_rfl
 rw [hc2] at hl;match cs,hl with
 | [c0,c1,c2,c3,c4,c5],_ =>
   have h0 := hf 0 (by decide);have h1 := hf 1 (by decide);rw [hc,List.getElem?_eq_getElem (by omega)] at h0 h1;obtain ⟨f1,a1,y1,e1,b1,b2,b3⟩ := ch_of (show DataW.trod enc Try.prog w base spare held m 33 [c0,c1,c2] = _ from h0);obtain ⟨f2,a2,y2,e2,b4,b5,b6⟩ := ch_of (show DataW.trod enc Try.prog w base spare held m 33 [c3,c4,c5] = _ from h1);cases e1; cases e2
   exact ⟨f1,a1,y1,f2,a2,y2,rfl,b1,b2,b3,b4,b5,b6⟩
end
end
end Go.Proofs.Ytccfcaejlohahaa
