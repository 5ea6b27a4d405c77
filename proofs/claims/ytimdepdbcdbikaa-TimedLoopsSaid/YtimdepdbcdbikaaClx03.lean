/-
  What the row leans on.
-/
import Derived.Test.YtimdepdbcdbikaaClx02
import Derived.Test.YtimdepdbcdbikaaBas19
import Derived.BigQuiet
import Derived.Great.BuildSlice
import Derived.Deep.MidRow
import Derived.Deep.CutBlock
import Derived.Deep.DeepCutAuto
import Derived.Test.YtimdepdbcdbikaaClx01
set_option linter.unusedSimpArgs false
set_option linter.unusedVariables false
namespace Go.Proofs.Ytimdepdbcdbikaa
open Go.RowKit
set_option maxRecDepth 100000
def GivesBx (m : Md) (w : World) (e : Ending) (w' : World) : Prop := ∃ (a : Au) (ed : List Ed) (p : AuP) (AS : Option Addr) (cS : Nat) (l : List SV),e = .returned (.tuple #[a.val p,.slice AS l.length cS]) ∧ (SepW w [eInts a.al (.slice p.A1 a.al.length p.c1),eInts a.mr (.slice p.A2 a.mr.length p.c2),eEds a.ed (.slice p.A3 a.ed.length p.c3),eSts l (.slice AS l.length cS),eTm l] w') ∧ Hid (a = tAu m (l.map SV.c) ed) ∧ Hid (Ufd m (l.map SV.c) ed) ∧ Hid (l.length ≤ 4000)
theorem buildX_c (m : Md) (P : MdP) (w : World) (hm : m.Ok) (hA : Md.At w m P) (hn : 0 < m.a.n) (hf : Few m) :
 Calls Try.prog 10 #[.agg (m.cells P).toArray] w (GivesBx m w) :=
 (build_c m P w hm hA hn hf).mono fun _ _ ⟨ed,p,AS,cS,l,h1,h2,h3,h4⟩ => ⟨_,ed,p,AS,cS,l,h1,h2,rfl,h3,h4⟩
theorem bld_right {m : Md} (s : Sml m) {a : Au} {ed : List Ed} {l : List SV} (ha : a = tAu m (l.map SV.c) ed) (hu : Ufd m (l.map SV.c) ed) (hl : l.length ≤ 4000) : a.Right ∧ 0 < a.n := by
 subst ha;have h := hu.right s.ok (by rw [List.length_map]; omega);refine ⟨h,?_⟩;have := hu.pos;show 0 < (((l.map SV.c).length : Nat) : Int)
 omega
theorem lens_right {a : Au} (h : a.Right) : a.al.length ≤ 140737488355328 ∧ a.mr.length ≤ 140737488355328 ∧ a.ed.length ≤ 140737488355328 := by
 have h1 := rises_len (n := 32) (l := a.al) h.al.incr (fun x hx => by
  obtain ⟨i,hi,rfl⟩ := List.mem_iff_getElem.1 hx;have := h.al i _ hi (List.getElem?_eq_getElem hi);exact ⟨this.1,this.2.1⟩)
 have h2 := rises_len (n := 4096) (l := a.mr) h.mr.incr (fun x hx => by
  obtain ⟨i,hi,rfl⟩ := List.mem_iff_getElem.1 hx;have := h.mr i _ hi (List.getElem?_eq_getElem hi);have := h.n1;omega)
 have h3 := ed_len h;omega
set_option maxHeartbeats 16000000 in
theorem lawLoops_c (x : Sm5) (w : World) (hx : x.Ok) : Calls Try.prog 3 #[.agg x.cells.toArray] w (Ret (.bool true) w) := by
 have MK := Lib.hid (fun W : World => makeM_c x W hx);have SM := Lib.hid (Sm5.sml hx);have INFO := Lib.hid (Sm5.info hx);obtain ⟨m,hm⟩ : ∃ m,m = x.md := ⟨_,rfl⟩;rw [← hm] at MK SM;obtain ⟨cs,hcs⟩ : ∃ cs,cs = x.cells := ⟨_,rfl⟩;rw [← hcs] at MK INFO ⊢;clear hm hcs hx;go_enter Try.func3,Try.ntmps3
 obtain ⟨xb,hxb⟩ : ∃ g,g = w.heap.size := ⟨_,rfl⟩;go_upto_region 1 with fail
 rw [← hxb];refine wp_world (fun W => (SepW w [eBlk xb 29 cs] W)) ((Sep.here w).alloc' _ cs rfl hxb) fun v1 S' => ?_;have T1 := Lib.hid S'.out;clear S' hxb;go_wp2_with fail
 refine (knownT_c v1).mono ?_;rintro e2 v2 ⟨rfl,hb⟩;have T2 := Lib.hid (T1.out.next hb);clear hb T1;have hrg := range_of (T2.out.get 0 rfl);go_wp2_with (refine wpList_load_mid rfl 29 _ rfl xb 0 rfl cs _ hrg Try.underlying29 rfl INFO.out ?_)
 refine (MK.out v2).mono ?_;rintro e3 v3 ⟨⟨p,B,d⟩,rfl,T⟩;dsimp only [Md.cells];have T3 := qkN T2.out T.out;clear T T2;clear hrg MK INFO;obtain ⟨mb,hg4⟩ : ∃ g,g = v3.heap.size := ⟨_,rfl⟩;go_upto_region 4 with fail
 rw [← hg4];refine wp_world (fun V => (SepW w [eBlk mb 37 [.slice p.A1 m.a.al.length p.c1,.int .i64 m.a.n,.slice p.A2 m.a.mr.length p.c2,.slice p.A3 m.a.ed.length p.c3,.slice B m.ac.length d,.int .i64 m.tk],eMdl m ⟨p,B,d⟩,eBlk xb 29 cs] V)) (T3.out.alloc' 37 [.slice p.A1 m.a.al.length p.c1,.int .i64 m.a.n,.slice p.A2 m.a.mr.length p.c2,.slice p.A3 m.a.ed.length p.c3,.slice B m.ac.length d,.int .i64 m.tk] rfl hg4) fun v4 S' => ?_;have T4 := Lib.hid S'.out;clear S' T3 hg4;have f_mb0 := qkC T4.out 0 rfl 0 rfl;have f_mb1 := qkC T4.out 0 rfl 1 rfl;have f_mb2 := qkC T4.out 0 rfl 2 rfl;have f_mb3 := qkC T4.out 0 rfl 3 rfl;have f_mb4 := qkC T4.out 0 rfl 4 rfl;have f_mb5 := qkC T4.out 0 rfl 5 rfl;go_wp2_with fail
 refine (buildX_c m ⟨p,B,d⟩ v4 SM.out.ok (T4.out.mdAt 1 rfl SM.out.lens) SM.out.n SM.out.few).mono ?_;rintro e5 v5 ⟨a,ed,q,AS,cS,l,rfl,T,HAE,HU,HL⟩;dsimp only [Au.val];have T5 := qkN T4.out T.out;clear f_mb0 f_mb1 f_mb2 f_mb3 f_mb4 f_mb5 T T4;obtain ⟨ab,hg6⟩ : ∃ g,g = v5.heap.size := ⟨_,rfl⟩;go_upto_region 5 with fail
 rw [← hg6];refine wp_world (fun V => (SepW w [eBlk ab 34 [.slice q.A1 a.al.length q.c1,.int .i64 a.n,.slice q.A2 a.mr.length q.c2,.slice q.A3 a.ed.length q.c3],eInts a.al (.slice q.A1 a.al.length q.c1),eInts a.mr (.slice q.A2 a.mr.length q.c2),eEds a.ed (.slice q.A3 a.ed.length q.c3),eSts l (.slice AS l.length cS),eTm l,eBlk mb 37 [.slice p.A1 m.a.al.length p.c1,.int .i64 m.a.n,.slice p.A2 m.a.mr.length p.c2,.slice p.A3 m.a.ed.length p.c3,.slice B m.ac.length d,.int .i64 m.tk],eMdl m ⟨p,B,d⟩,eBlk xb 29 cs] V)) (T5.out.alloc' 34 [.slice q.A1 a.al.length q.c1,.int .i64 a.n,.slice q.A2 a.mr.length q.c2,.slice q.A3 a.ed.length q.c3] rfl hg6) fun v6 S' => ?_;have T6 := Lib.hid S'.out;clear S' T5 hg6;have HRT := Lib.hid (bld_right SM.out HAE.out HU.out HL.out);have f_mb0 := qkC T6.out 6 rfl 0 rfl;have f_mb1 := qkC T6.out 6 rfl 1 rfl;have f_mb2 := qkC T6.out 6 rfl 2 rfl;have f_mb3 := qkC T6.out 6 rfl 3 rfl;have f_mb4 := qkC T6.out 6 rfl 4 rfl;have f_mb5 := qkC T6.out 6 rfl 5 rfl;go_wp2_with fail
 refine (loop_c m ⟨p,B,d⟩ v6 SM.out.ok (T6.out.mdAt 7 rfl SM.out.lens) SM.out.n SM.out.few (T6.out.mdCap 7 rfl)).mono ?_;rintro e7 v7 ⟨fs,ed2,X1,x1,X2,x2,pp,qq,ff,rfl,HP1,HP2,hb,HCY,HU2,HL2,hp1,hq1⟩;have T7 := Lib.hid (T6.out.next hb);clear f_mb0 f_mb1 f_mb2 f_mb3 f_mb4 f_mb5 hb T6;have HUQ : Hid (fs = l.map SV.c ∧ ed2 = ed) := HU2.out.uniq HU.out;have HCZ : Hid ((pp,qq,ff) = cycV a (fun x => decide (x.ev ∈ m.a.al))) := by
  have h := HCY.out;rw [HUQ.out.1,HUQ.out.2,← HAE.out] at h;exact h
 clear HCY HU2 HUQ HL2;have f_ab0 := qkC T7.out 0 rfl 0 rfl;have f_ab1 := qkC T7.out 0 rfl 1 rfl;have f_ab2 := qkC T7.out 0 rfl 2 rfl;have f_ab3 := qkC T7.out 0 rfl 3 rfl;have f_mb0 := qkC T7.out 6 rfl 0 rfl;have f_mb1 := qkC T7.out 6 rfl 1 rfl;have f_mb2 := qkC T7.out 6 rfl 2 rfl;have f_mb3 := qkC T7.out 6 rfl 3 rfl;have f_mb4 := qkC T7.out 6 rfl 4 rfl;have f_mb5 := qkC T7.out 6 rfl 5 rfl;have HLN := Lib.hid (lens_right HRT.out.1);have hAt : Au.At v7 a q := ⟨T7.out.ints 1 rfl,T7.out.ints 2 rfl,T7.out.eds 3 rfl,HLN.out.1,HLN.out.2.1,HLN.out.2.2⟩;have hCp : Caps a q := ⟨Own.cap (T7.out.get 1 rfl),Own.cap (T7.out.get 2 rfl),Own.cap (T7.out.get 3 rfl)⟩;have CC := Lib.hid (cycle_c a q p.A1 p.c1 m.a.al v7 HRT.out.1 HRT.out.2 hAt hCp (T7.out.mdAt 7 rfl SM.out.lens).a.al SM.out.ok.a.al);clear hAt hCp;go_wp2_with fail
 refine (CC.out).mono ?_;rintro e8 v8 ⟨Y1,y1,Y2,y2,pz,qz,fz,rfl,HQ1,HQ2,hb,hcz,hp2,hq2⟩;have HP1' := Lib.hid (HP1.out.below IntE.stays hb);have HP2' := Lib.hid (HP2.out.below IntE.stays hb);clear HP1 HP2 CC;have heq : (pz,qz,fz) = (pp,qq,ff) := hcz.trans HCZ.out.symm;simp only [Prod.mk.injEq] at heq;obtain ⟨rfl,rfl,rfl⟩ := heq;clear hcz HCZ;have T8 := Lib.hid (T7.out.next hb);clear f_ab0 f_ab1 f_ab2 f_ab3 f_mb0 f_mb1 f_mb2 f_mb3 f_mb4 f_mb5 hb T7;have SA := Lib.hid (fun (W : World) (h : Below v8.heap.size v8 W) => same44_c X1 Y1 x1 y1 pz pz W (HP1'.out.below IntE.stays h) (HQ1.out.below IntE.stays h) (by omega) (by omega));have SB := Lib.hid (fun (W : World) (h : Below v8.heap.size v8 W) => same44_c X2 Y2 x2 y2 qz qz W (HP2'.out.below IntE.stays h) (HQ2.out.below IntE.stays h) (by omega) (by omega));have hff : (fz == fz) = true := by simp
 go_wp2_with fail
 refine (SA.out _ (Below.refl _ _)).mono ?_;intro e90 v90 hs;obtain ⟨rfl,hb90⟩ := hs.yes2 (by simp);have T90 := Lib.hid (T8.out.next hb90);clear hs;go_wp2_with fail
 refine (SB.out _ hb90).mono ?_;intro e91 v91 hs;obtain ⟨rfl,hb91⟩ := hs.yes2 (by simp);have T91 := Lib.hid (T90.out.next hb91);clear hs;go_wp2_with fail
 go_ret
 exact ⟨rfl,T91.out.below⟩
end Go.Proofs.Ytimdepdbcdbikaa
