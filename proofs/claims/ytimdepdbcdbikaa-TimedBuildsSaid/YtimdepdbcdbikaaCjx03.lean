/-
  What the row leans on.
-/
import Derived.Test.YtimdepdbcdbikaaBas01
import Derived.Test.YtimdepdbcdbikaaCjx02
import Derived.Test.YtimdepdbcdbikaaBas17
import Derived.BigQuiet
import Derived.Great.BuildSlice
import Derived.Deep.MidRow
import Derived.Deep.CutBlock
import Derived.Deep.DeepCutAuto
import Derived.Test.YtimdepdbcdbikaaCjx01
set_option linter.unusedSimpArgs false
set_option linter.unusedVariables false
namespace Go.Proofs.Ytimdepdbcdbikaa
open Go.RowKit
set_option maxRecDepth 100000
def GivesBx (m : Md) (w : World) (e : Ending) (w' : World) : Prop := ∃ (a : Au) (ed : List Ed) (p : AuP) (AS : Option Addr) (cS : Nat) (l : List SV),e = .returned (.tuple #[a.val p,.slice AS l.length cS]) ∧ (SepW w [eInts a.al (.slice p.A1 a.al.length p.c1),eInts a.mr (.slice p.A2 a.mr.length p.c2),eEds a.ed (.slice p.A3 a.ed.length p.c3),eSts l (.slice AS l.length cS),eTm l] w') ∧ Hid (a = tAu m (l.map SV.c) ed) ∧ Hid (Ufd m (l.map SV.c) ed) ∧ Hid (l.length ≤ 4000)
theorem buildX_c (m : Md) (P : MdP) (w : World) (hm : m.Ok) (hA : Md.At w m P) (hn : 0 < m.a.n) (hf : Few m) :
 Calls Try.prog 10 #[.agg (m.cells P).toArray] w (GivesBx m w) :=
 (build_c m P w hm hA hn hf).mono fun _ _ ⟨ed,p,AS,cS,l,h1,h2,h3,h4⟩ => ⟨_,ed,p,AS,cS,l,h1,h2,rfl,h3,h4⟩
theorem bld_right {m : Md} (s : Sml m) {a : Au} {ed : List Ed} {l : List SV} (ha : a = tAu m (l.map SV.c) ed) (hu : Ufd m (l.map SV.c) ed) (hl : l.length ≤ 4000) : a.Right ∧ 0 < a.n := by
 subst ha;have h := hu.right s.ok (by rw [List.length_map]; omega);refine ⟨h,?_⟩;have := hu.pos;show 0 < (((l.map SV.c).length : Nat) : Int)
 omega
theorem lens_right {a : Au} (h : a.Right) : a.al.length ≤ 140737488355328 ∧ a.mr.length ≤ 140737488355328 ∧ a.ed.length ≤ 140737488355328 := by
 have h1 := rises_len (n := 32) (l := a.al) h.al.incr (fun x hx => by
  obtain ⟨i,hi,rfl⟩ := List.mem_iff_getElem.1 hx;have := h.al i _ hi (List.getElem?_eq_getElem hi);exact ⟨this.1,this.2.1⟩)
 have h2 := rises_len (n := 4096) (l := a.mr) h.mr.incr (fun x hx => by
  obtain ⟨i,hi,rfl⟩ := List.mem_iff_getElem.1 hx;have := h.mr i _ hi (List.getElem?_eq_getElem hi);have := h.n1;omega)
 have h3 := ed_len h;omega
def GivesTx (m : Md) (w : World) (e : Ending) (w' : World) : Prop := ∃ (a : Au) (ed : List Ed) (p : AuP) (AS : Option Addr) (cS : Nat) (l : List SV),e = .returned (.tuple #[a.val p,.slice AS l.length cS,.int .i64 0]) ∧ (SepW w [eInts a.al (.slice p.A1 a.al.length p.c1),eInts a.mr (.slice p.A2 a.mr.length p.c2),eEds a.ed (.slice p.A3 a.ed.length p.c3),eSts l (.slice AS l.length cS),eTm l] w') ∧ Hid (a = tAu m (l.map SV.c) ed) ∧ Hid (Ufd m (l.map SV.c) ed) ∧ Hid (l.length ≤ 4000)
theorem timedX_c (m : Md) (P : MdP) (w : World) (hm : m.Ok) (hA : Md.At w m P) (hn : 0 < m.a.n) (hf : Few m) (hc : m.a.al.length ≤ P.p.c1) :
 Calls Try.prog 17 #[.agg (m.cells P).toArray] w (GivesTx m w) :=
 (timed_c m P w hm hA hn hf hc).mono fun _ _ ⟨fs,ed,p,AS,cS,l,h1,h2,h3,h4,h5⟩ => by
   have h3 : l.map SV.c = fs := h3;subst h3;refine ⟨_,ed,p,AS,cS,l,h1,h2,rfl,h4,?_⟩;have := h5.out;rw [List.length_map] at this;exact this
set_option maxHeartbeats 16000000 in
theorem lawBuilds_c (x : Sm5) (w : World) (hx : x.Ok) : Calls Try.prog 5 #[.agg x.cells.toArray] w (Ret (.bool true) w) := by
 have MK := Lib.hid (fun W : World => makeM_c x W hx);have SM := Lib.hid (Sm5.sml hx);have INFO := Lib.hid (Sm5.info hx);obtain ⟨m,hm⟩ : ∃ m,m = x.md := ⟨_,rfl⟩;rw [← hm] at MK SM;obtain ⟨cs,hcs⟩ : ∃ cs,cs = x.cells := ⟨_,rfl⟩;rw [← hcs] at MK INFO ⊢;clear hm hcs hx;go_enter Try.func5,Try.ntmps5
 obtain ⟨xb,hxb⟩ : ∃ g,g = w.heap.size := ⟨_,rfl⟩;go_upto_region 1 with fail
 rw [← hxb];refine wp_world (fun W => (SepW w [eBlk xb 29 cs] W)) ((Sep.here w).alloc' _ cs rfl hxb) fun v1 S' => ?_;have T1 := Lib.hid S'.out;clear S' hxb;go_wp2_with fail
 refine (knownT_c v1).mono ?_;rintro e2 v2 ⟨rfl,hb⟩;have T2 := Lib.hid (T1.out.next hb);clear hb T1;have hrg := range_of (T2.out.get 0 rfl);go_wp2_with (refine wpList_load_mid rfl 29 _ rfl xb 0 rfl cs _ hrg Try.underlying29 rfl INFO.out ?_)
 refine (MK.out v2).mono ?_;rintro e3 v3 ⟨⟨p,B,d⟩,rfl,T⟩;dsimp only [Md.cells];have T3 := qkN T2.out T.out;clear T T2;clear hrg MK INFO;obtain ⟨mb,hg4⟩ : ∃ g,g = v3.heap.size := ⟨_,rfl⟩;go_upto_region 4 with fail
 rw [← hg4];refine wp_world (fun V => (SepW w [eBlk mb 37 [.slice p.A1 m.a.al.length p.c1,.int .i64 m.a.n,.slice p.A2 m.a.mr.length p.c2,.slice p.A3 m.a.ed.length p.c3,.slice B m.ac.length d,.int .i64 m.tk],eMdl m ⟨p,B,d⟩,eBlk xb 29 cs] V)) (T3.out.alloc' 37 [.slice p.A1 m.a.al.length p.c1,.int .i64 m.a.n,.slice p.A2 m.a.mr.length p.c2,.slice p.A3 m.a.ed.length p.c3,.slice B m.ac.length d,.int .i64 m.tk] rfl hg4) fun v4 S' => ?_;have T4 := Lib.hid S'.out;clear S' T3 hg4;have f_mb0 := qkC T4.out 0 rfl 0 rfl;have f_mb1 := qkC T4.out 0 rfl 1 rfl;have f_mb2 := qkC T4.out 0 rfl 2 rfl;have f_mb3 := qkC T4.out 0 rfl 3 rfl;have f_mb4 := qkC T4.out 0 rfl 4 rfl;have f_mb5 := qkC T4.out 0 rfl 5 rfl;go_wp2_with fail
 refine (timedX_c m ⟨p,B,d⟩ v4 SM.out.ok (T4.out.mdAt 1 rfl SM.out.lens) SM.out.n SM.out.few (T4.out.mdCap 1 rfl)).mono ?_;rintro e5 v5 ⟨a,ed,q,AS,cS,l,rfl,T,HAE,HU,HL⟩;dsimp only [Au.val];have T5 := qkN T4.out T.out;clear f_mb0 f_mb1 f_mb2 f_mb3 f_mb4 f_mb5 T T4;obtain ⟨ab,hg6⟩ : ∃ g,g = v5.heap.size := ⟨_,rfl⟩;go_upto_region 5 with fail
 rw [← hg6];refine wp_world (fun V => (SepW w [eBlk ab 34 [.slice q.A1 a.al.length q.c1,.int .i64 a.n,.slice q.A2 a.mr.length q.c2,.slice q.A3 a.ed.length q.c3],eInts a.al (.slice q.A1 a.al.length q.c1),eInts a.mr (.slice q.A2 a.mr.length q.c2),eEds a.ed (.slice q.A3 a.ed.length q.c3),eSts l (.slice AS l.length cS),eTm l,eBlk mb 37 [.slice p.A1 m.a.al.length p.c1,.int .i64 m.a.n,.slice p.A2 m.a.mr.length p.c2,.slice p.A3 m.a.ed.length p.c3,.slice B m.ac.length d,.int .i64 m.tk],eMdl m ⟨p,B,d⟩,eBlk xb 29 cs] V)) (T5.out.alloc' 34 [.slice q.A1 a.al.length q.c1,.int .i64 a.n,.slice q.A2 a.mr.length q.c2,.slice q.A3 a.ed.length q.c3] rfl hg6) fun v6 S' => ?_;have T6 := Lib.hid S'.out;clear S' T5 hg6;have f_mb0 := qkC T6.out 6 rfl 0 rfl;have f_mb1 := qkC T6.out 6 rfl 1 rfl;have f_mb2 := qkC T6.out 6 rfl 2 rfl;have f_mb3 := qkC T6.out 6 rfl 3 rfl;have f_mb4 := qkC T6.out 6 rfl 4 rfl;have f_mb5 := qkC T6.out 6 rfl 5 rfl;go_wp2_with fail
 refine (buildX_c m ⟨p,B,d⟩ v6 SM.out.ok (T6.out.mdAt 7 rfl SM.out.lens) SM.out.n SM.out.few).mono ?_;rintro e7 v7 ⟨b,ed2,r,BS,bS,l2,rfl,T,HBE,HU2,HL2⟩;dsimp only [Au.val];have T7 := qkN T6.out T.out;clear f_mb0 f_mb1 f_mb2 f_mb3 f_mb4 f_mb5 T T6;obtain ⟨bb,hg8⟩ : ∃ g,g = v7.heap.size := ⟨_,rfl⟩;go_upto_region 6 with fail
 rw [← hg8];refine wp_world (fun V => (SepW w [eBlk bb 34 [.slice r.A1 b.al.length r.c1,.int .i64 b.n,.slice r.A2 b.mr.length r.c2,.slice r.A3 b.ed.length r.c3],eInts b.al (.slice r.A1 b.al.length r.c1),eInts b.mr (.slice r.A2 b.mr.length r.c2),eEds b.ed (.slice r.A3 b.ed.length r.c3),eSts l2 (.slice BS l2.length bS),eTm l2,eBlk ab 34 [.slice q.A1 a.al.length q.c1,.int .i64 a.n,.slice q.A2 a.mr.length q.c2,.slice q.A3 a.ed.length q.c3],eInts a.al (.slice q.A1 a.al.length q.c1),eInts a.mr (.slice q.A2 a.mr.length q.c2),eEds a.ed (.slice q.A3 a.ed.length q.c3),eSts l (.slice AS l.length cS),eTm l,eBlk mb 37 [.slice p.A1 m.a.al.length p.c1,.int .i64 m.a.n,.slice p.A2 m.a.mr.length p.c2,.slice p.A3 m.a.ed.length p.c3,.slice B m.ac.length d,.int .i64 m.tk],eMdl m ⟨p,B,d⟩,eBlk xb 29 cs] V)) (T7.out.alloc' 34 [.slice r.A1 b.al.length r.c1,.int .i64 b.n,.slice r.A2 b.mr.length r.c2,.slice r.A3 b.ed.length r.c3] rfl hg8) fun v8 S' => ?_;have T8 := Lib.hid S'.out;clear S' T7 hg8;have HUQ : Hid (l.map SV.c = l2.map SV.c ∧ ed = ed2) := HU.out.uniq HU2.out;have HAB : Hid (a = b) := by rw [Hid,HAE.out,HBE.out,HUQ.out.1,HUQ.out.2]
 have hll : l.length = l2.length := by have h := congrArg List.length HUQ.out.1; rw [List.length_map,List.length_map] at h; exact h
 have hl1 : ((l.length : Int) != (l2.length : Int)) = false := by rw [hll]; simp
 have hl2 : (l.length != l2.length) = false := by rw [hll]; simp
 have HLL := Lib.hid hll;have HRT := Lib.hid (bld_right SM.out HAE.out HU.out HL.out);have HRT2 := Lib.hid (bld_right SM.out HBE.out HU2.out HL2.out);have HLN := Lib.hid (lens_right HRT.out.1);have HLN2 := Lib.hid (lens_right HRT2.out.1);clear hll;have f_ab0 := qkC T8.out 6 rfl 0 rfl;have f_ab1 := qkC T8.out 6 rfl 1 rfl;have f_ab2 := qkC T8.out 6 rfl 2 rfl;have f_ab3 := qkC T8.out 6 rfl 3 rfl;have f_bb0 := qkC T8.out 0 rfl 0 rfl;have f_bb1 := qkC T8.out 0 rfl 1 rfl;have f_bb2 := qkC T8.out 0 rfl 2 rfl;have f_bb3 := qkC T8.out 0 rfl 3 rfl;have EQ := Lib.hid (autoEq_c a b q r v8 ⟨T8.out.ints 7 rfl,T8.out.ints 8 rfl,T8.out.eds 9 rfl,HLN.out.1,HLN.out.2.1,HLN.out.2.2⟩ ⟨T8.out.ints 1 rfl,T8.out.ints 2 rfl,T8.out.eds 3 rfl,HLN2.out.1,HLN2.out.2.1,HLN2.out.2.2⟩);go_wp2_with fail
 refine (EQ.out).mono ?_;intro e9 v9 hs;obtain ⟨rfl,hb⟩ := hs.yes2 (HAB.out);have T9 := Lib.hid (T8.out.next hb);clear f_ab0 f_ab1 f_ab2 f_ab3 f_bb0 f_bb1 f_bb2 f_bb3 hb hs T8;have T10 : (SepW w [eSts l (.slice AS l.length cS),eTm l,eSts l2 (.slice BS l2.length bS),eTm l2] v9) := T9.out.pick [10,11,4,5] (by decide);clear T9;clear EQ HLN HLN2 HRT HRT2;go_wp2_with fail
 clear hl1 hl2;go_loopw [9] (fun vi wr => ∃ i : Nat,vi = .int .i64 ↑i ∧ i ≤ l.length ∧ (SepW w [eSts l (.slice AS l.length cS),eTm l,eSts l2 (.slice BS l2.length bS),eTm l2] wr)) (fun vi _ => l.length - (intOf vi).toNat)
 case atStart => exact ⟨0,rfl,Nat.zero_le _,T10.out⟩
 case round =>
  clear T10;obtain ⟨i,rfl,hi,S⟩ := hrel;have hl4 := HL.out;by_cases hlt : i < l.length
  · have hlt2 : i < l2.length := by rw [← HLL.out]; exact hlt
    obtain ⟨x,hx⟩ : ∃ x,l[i]? = some x := ⟨_,List.getElem?_eq_getElem hlt⟩;obtain ⟨y,hy⟩ : ∃ y,l2[i]? = some y := ⟨_,List.getElem?_eq_getElem hlt2⟩;have HXY : Hid (x.c = y.c) := by
     have h1 := map_at hx;have h2 := map_at hy;rw [HUQ.out.1,h2] at h1;exact (Option.some.inj h1).symm
    have hx4 := (HU.out.is x.c (List.mem_map.2 ⟨x,List.mem_of_getElem? hx,rfl⟩)).len;have hm4 := SM.out.len;have HXL : Hid (x.c.2.length ≤ 140737488355328) := by rw [Hid]; omega
    have HYL : Hid (y.c.2.length ≤ 140737488355328) := by rw [Hid,← HXY.out]; omega
    have HX := Lib.hid hx;have HY := Lib.hid hy;obtain ⟨g1,o1,h1⟩ := S.out.stForm 0 rfl hlt;subst h1;obtain ⟨g2,o2,h2⟩ := S.out.stForm 2 rfl hlt2;subst h2;have hwi : IntKind.i64.wrap ((i : Int) + 1) = (i : Int) + 1 := IntWalk.i64_in _ (by omega);clear hx hy hx4 hm4;go_upto_region 11 with fail
    go_cut [55] (fun v wx => v = .bool false ∧ (SepW w [eSts l (.slice (some ⟨g1,o1,none⟩) l.length cS),eTm l,eSts l2 (.slice (some ⟨g2,o2,none⟩) l2.length bS),eTm l2] wx))
    case first =>
     have S1 := Lib.hid S.out.drew;refine wp_region_held_drew (S := (fun V => Sep w.heap.size w [eSts l (.slice (some ⟨g1,o1,none⟩) l.length cS),eSts l2 (.slice (some ⟨g2,o2,none⟩) l2.length bS)] V)) (by kernel_rfl) ?_ (fun hH => ?_)
     · exact S1.out.pick [0,2] (by decide)
     generalize hwz : wr.drew = w1 at *;clear hwz;refine tkP 0 rfl (v := ?_) hH ?_;(try simp only [sx]);refine tkP 1 rfl (v := ?_) hH ?_;(try simp only [sx]);refine tkP 2 rfl (v := ?_) hH ?_;(try simp only [sx]);refine tkH 3 rfl (v := ?_) (by kernel_rfl) ?_ hH ?_;rotate_left
     · intro V hs_;have y0 := Sep.stAt (show Sep w.heap.size w _ V from hs_) 0 rfl HX.out;obtain ⟨y0,y1⟩ := y0;clear hs_;first | (go_simp; done) | (go_simp; with_reducible rfl)
     (try simp only [sx]);refine tkP 4 rfl (v := ?_) hH ?_;(try simp only [sx]);refine tkP 5 rfl (v := ?_) hH ?_;(try simp only [sx]);refine tkP 6 rfl (v := ?_) hH ?_;(try simp only [sx]);refine tkH 7 rfl (v := ?_) (by kernel_rfl) ?_ hH ?_;rotate_left
     · intro V hs_;have z0 := Sep.stAt (show Sep w.heap.size w _ V from hs_) 1 rfl HY.out;obtain ⟨z0,z1⟩ := z0;clear hs_;first | (go_simp; done) | (go_simp; with_reducible rfl)
     (try simp only [sx]);refine rdH 8 rfl fun K hK => ?_;go_simp;refine (sameState_c x.c y.c x.A y.A x.cp y.cp w1 (S1.out.get 1 rfl x (List.mem_of_getElem? HX.out)) (S1.out.get 3 rfl y (List.mem_of_getElem? HY.out)) HXL.out HYL.out).mono ?_;intro e_ w2 hs;obtain ⟨rfl,hb⟩ := hs.yes2 HXY.out;have S2 := Lib.hid (S1.out.next hb);clear hb hs;refine hK.out _ _ (S2.out.pick [0,2] (by decide)) fun hH => ?_;clear hK K;(try simp only [sx]);refine tkP 9 rfl (v := ?_) hH ?_;(try simp only [sx]);refine wpAnyH_done (by kernel_rfl) ?_ _;go_wp2_with fail
     go_meet
     exact ⟨rfl,S2.out⟩
    case rest =>
     clear S;obtain ⟨rfl,S⟩ := hcut;go_wp2_with fail
     go_roundw
     case rel => exact ⟨i + 1,by go_num,by omega,S.out⟩
     case measure => simp [intOf]; omega
  · obtain rfl : i = l.length := by omega
    go_wp2_with fail
    go_ret
    exact ⟨rfl,S.out.below⟩
end Go.Proofs.Ytimdepdbcdbikaa
