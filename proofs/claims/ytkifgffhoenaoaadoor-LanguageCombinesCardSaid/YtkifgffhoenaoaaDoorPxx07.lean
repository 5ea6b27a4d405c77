/-
  overseerlaw09.Make: which automata it makes.
  overseerlaw09.LanguageCombines.
  How the arguments of the laws read: numbers, described graphs, described pairs.
-/
import Derived.Test.YtkifgffhoenaoaaDoorBas01
import Derived.Test.YtkifgffhoenaoaaDoorPxx06
import Derived.Test.YtkifgffhoenaoaaDoorPxx02
import Derived.Test.YtkifgffhoenaoaaDoorPxx01
import Derived.Test.YtkifgffhoenaoaaDoorBas18
set_option linter.unusedSimpArgs false
set_option linter.unusedVariables false
namespace Go.Proofs.YtkifgffhoenaoaaDoor
open Go.RowKit
set_option maxRecDepth 100000
def GivesTwoW (s0 s1 : Int) (g0 g1 : Gr) (w : World) (e : Ending) (w' : World) : Prop := ∃ a p b q,e = .returned (.tuple #[a.val p,b.val q]) ∧ Hid (Sep w.heap.size w (eAu a p ++ eAu b q) w') ∧ Hid (Gd s0 a) ∧ Hid (Gd s1 b) ∧ Hid (makeV (evV s0 5) g0 = a) ∧ Hid (makeV (evV s1 5) g1 = b)
set_option maxHeartbeats 4000000 in
theorem make9w_c (s0 s1 : Int) (g0 g1 : Gr) (w : World) (h0 : 0 ≤ s0 ∧ s0 < 256) (h1 : 0 ≤ s1 ∧ s1 < 256) (hg0 : g0.Ok) (hg1 : g1.Ok) :
 Calls Tryd.prog 14 #[.agg (twoCells s0 s1 g0 g1).toArray] w (GivesTwoW s0 s1 g0 g1 w) := by
 have H0 := Lib.hid h0
 have H1 := Lib.hid h1
 have HG0 := Lib.hid hg0
 have HG1 := Lib.hid hg1
 clear h0 h1 hg0 hg1
 go_enter Tryd.func14,Tryd.ntmps14
 generalize hcs : twoCells s0 s1 g0 g1 = cs
 go_upto_region 1 with fail
 refine wp_world (fun W => Sep w.heap.size w [eBlk (w.heap.size + 2) 35 [.slice none 0 0,.int .i64 0,.slice none 0 0,.slice none 0 0],eBlk (w.heap.size + 1) 35 [.slice none 0 0,.int .i64 0,.slice none 0 0,.slice none 0 0],eBlk w.heap.size 30 cs] W) ?_ fun W0 S => ?_
 · exact ((((Sep.here w).alloc' _ cs rfl rfl).alloc' _ [_,_,_,_] rfl (by simp)).alloc' _ [_,_,_,_] rfl (by simp))
 rw [← hcs] at S
 have S0 := Lib.hid S
 clear S hcs
 have S1 := Lib.hid S0.out.drew
 refine wp_region_held_drew (S := (fun V => Sep w.heap.size w [eBlk w.heap.size 30 (twoCells s0 s1 g0 g1)] V)) (by kernel_rfl) ?_ (fun hHeld => ?_)
 · exact S1.out.pick [2] (by decide)
 generalize hwz : W0.drew = w1 at *
 clear hwz
 refine tkP 0 rfl (v := ?_) hHeld ?_
 try simp only [sx]
 refine tkP 1 rfl (v := ?_) hHeld ?_
 try simp only [sx]
 refine tkH 2 rfl (v := ?_) (by kernel_rfl) ?_ hHeld ?_
 rotate_left
 · intro V hSw
   have c0 := BlkAt.cell (Sep.get (show Sep w.heap.size w _ V from hSw) 0 rfl) 0
   rw [show (twoCells s0 s1 g0 g1)[0]? = some (.int .u8 s0) from rfl] at c0
   clear hSw
   first | (go_simp; done) | (go_simp; with_reducible rfl)
 try simp only [sx]
 refine tkP 4 rfl (v := ?_) hHeld ?_
 try simp only [sx]
 refine tkP 5 rfl (v := ?_) hHeld ?_
 try simp only [sx]
 refine wpAnyH_take (i := 6) (v := _) rfl (by kernel_rfl) (by kernel_rfl) (by kernel_rfl) (fun _ _ _ h => h) (yieldsIf_load_mid (by kernel_rfl) 27 (.tmp 9) rfl w.heap.size 2 rfl g0.cells _ (fun V hSw => BlkAt.rng (Sep.get (show Sep w.heap.size w _ V from hSw) 0 rfl) (two2 s0 s1 g0 g1)) Tryd.underlying27 rfl (by kernel_rfl)) hHeld ?_
 try simp only [sx]
 refine tkP 8 rfl (v := ?_) hHeld ?_
 try simp only [sx]
 refine tkP 9 rfl (v := ?_) hHeld ?_
 try simp only [sx]
 refine tkH 10 rfl (v := ?_) (by kernel_rfl) ?_ hHeld ?_
 rotate_left
 · intro V hSw
   have c1 := BlkAt.cell (Sep.get (show Sep w.heap.size w _ V from hSw) 0 rfl) 1
   rw [show (twoCells s0 s1 g0 g1)[1]? = some (.int .u8 s1) from rfl] at c1
   clear hSw
   first | (go_simp; done) | (go_simp; with_reducible rfl)
 try simp only [sx]
 refine tkP 12 rfl (v := ?_) hHeld ?_
 try simp only [sx]
 refine tkP 13 rfl (v := ?_) hHeld ?_
 try simp only [sx]
 refine wpAnyH_take (i := 14) (v := _) rfl (by kernel_rfl) (by kernel_rfl) (by kernel_rfl) (fun _ _ _ h => h) (yieldsIf_load_mid (by kernel_rfl) 27 (.tmp 17) rfl w.heap.size 29 rfl g1.cells _ (fun V hSw => BlkAt.rng (Sep.get (show Sep w.heap.size w _ V from hSw) 0 rfl) (two29 s0 s1 g0 g1)) Tryd.underlying27 rfl (by kernel_rfl)) hHeld ?_
 try simp only [sx]
 refine rdH 3 rfl fun K hK => ?_
 go_simp
 refine (events_c s0 w1 H0.out.1 H0.out.2).mono ?_
 rintro e w2 ⟨v,rfl,O,hb⟩
 obtain ⟨Aea,cea,rfl⟩ := Own.form O.out
 have S2 : Hid (Sep w.heap.size w [eInts (evV s0 5) (.slice Aea (evV s0 5).length cea),eBlk (w.heap.size + 2) 35 [.slice none 0 0,.int .i64 0,.slice none 0 0,.slice none 0 0],eBlk (w.heap.size + 1) 35 [.slice none 0 0,.int .i64 0,.slice none 0 0,.slice none 0 0],eBlk w.heap.size 30 (twoCells s0 s1 g0 g1)] w2) := S1.out.newI O.out hb
 clear O hb
 refine hK.out _ _ ?_ (fun hHeld => ?_)
 · exact S2.out.pick [3] (by decide)
 clear hK K
 try simp only [sx]
 refine rdH 7 rfl fun K hK => ?_
 go_simp
 refine (make3w_c Aea cea (evV s0 5) g0 w2 (S2.out.ints 0 rfl) (evV_lt5 s0 5) (fun e => Own.none (S2.out.get 0 rfl) e) HG0.out).mono ?_
 rintro e w3 ⟨a,p,hmka,rfl,hr,ha,hn,hed,hmr,HAO,hb⟩
 have FA : Hid (Gd s0 a) := ⟨hr,ha,hn,hed,hmr⟩
 have S3 : Hid (Sep w.heap.size w [eInts a.al (.slice p.A1 a.al.length p.c1),eInts a.mr (.slice p.A2 a.mr.length p.c2),eEds a.ed (.slice p.A3 a.ed.length p.c3),eInts (evV s0 5) (.slice Aea (evV s0 5).length cea),eBlk (w.heap.size + 2) 35 [.slice none 0 0,.int .i64 0,.slice none 0 0,.slice none 0 0],eBlk (w.heap.size + 1) 35 [.slice none 0 0,.int .i64 0,.slice none 0 0,.slice none 0 0],eBlk w.heap.size 30 (twoCells s0 s1 g0 g1)] w3) := S2.out.news (AuOwn.sep HAO.out hb)
 have MKa := Lib.hid hmka
 clear HAO hb hr ha hn hed hmr hmka
 refine hK.out _ _ ?_ (fun hHeld => ?_)
 · exact S3.out.pick [6] (by decide)
 clear hK K
 try simp only [sx]
 refine rdH 11 rfl fun K hK => ?_
 go_simp
 refine (events_c s1 w3 H1.out.1 H1.out.2).mono ?_
 rintro e w4 ⟨v,rfl,O,hb⟩
 obtain ⟨Aeb,ceb,rfl⟩ := Own.form O.out
 have S4 : Hid (Sep w.heap.size w [eInts (evV s1 5) (.slice Aeb (evV s1 5).length ceb),eInts a.al (.slice p.A1 a.al.length p.c1),eInts a.mr (.slice p.A2 a.mr.length p.c2),eEds a.ed (.slice p.A3 a.ed.length p.c3),eInts (evV s0 5) (.slice Aea (evV s0 5).length cea),eBlk (w.heap.size + 2) 35 [.slice none 0 0,.int .i64 0,.slice none 0 0,.slice none 0 0],eBlk (w.heap.size + 1) 35 [.slice none 0 0,.int .i64 0,.slice none 0 0,.slice none 0 0],eBlk w.heap.size 30 (twoCells s0 s1 g0 g1)] w4) := S3.out.newI O.out hb
 clear O hb
 refine hK.out _ _ ?_ (fun hHeld => ?_)
 · exact S4.out.pick [7] (by decide)
 clear hK K
 try simp only [sx]
 refine rdH 15 rfl fun K hK => ?_
 go_simp
 refine (make3w_c Aeb ceb (evV s1 5) g1 w4 (S4.out.ints 0 rfl) (evV_lt5 s1 5) (fun e => Own.none (S4.out.get 0 rfl) e) HG1.out).mono ?_
 rintro e w5 ⟨b,q,hmkb,rfl,hr,ha,hn,hed,hmr,HAO,hb⟩
 have FB : Hid (Gd s1 b) := ⟨hr,ha,hn,hed,hmr⟩
 have S5 : Hid (Sep w.heap.size w [eInts b.al (.slice q.A1 b.al.length q.c1),eInts b.mr (.slice q.A2 b.mr.length q.c2),eEds b.ed (.slice q.A3 b.ed.length q.c3),eInts (evV s1 5) (.slice Aeb (evV s1 5).length ceb),eInts a.al (.slice p.A1 a.al.length p.c1),eInts a.mr (.slice p.A2 a.mr.length p.c2),eEds a.ed (.slice p.A3 a.ed.length p.c3),eInts (evV s0 5) (.slice Aea (evV s0 5).length cea),eBlk (w.heap.size + 2) 35 [.slice none 0 0,.int .i64 0,.slice none 0 0,.slice none 0 0],eBlk (w.heap.size + 1) 35 [.slice none 0 0,.int .i64 0,.slice none 0 0,.slice none 0 0],eBlk w.heap.size 30 (twoCells s0 s1 g0 g1)] w5) := S4.out.news (AuOwn.sep HAO.out hb)
 have MKb := Lib.hid hmkb
 clear HAO hb hr ha hn hed hmr hmkb
 refine hK.out _ _ ?_ (fun hHeld => ?_)
 · exact S5.out.pick [10] (by decide)
 clear hK K
 try simp only [sx]
 refine rdH 16 rfl fun K hK => ?_
 have sc0 := ckC S5.out 9 rfl 0 rfl
 have sf0 := BlkAt.free (S5.out.get 9 rfl) 0
 have sc1 := ckC S5.out 9 rfl 1 rfl
 have sf1 := BlkAt.free (S5.out.get 9 rfl) 1
 have sc2 := ckC S5.out 9 rfl 2 rfl
 have sf2 := BlkAt.free (S5.out.get 9 rfl) 2
 have sc3 := ckC S5.out 9 rfl 3 rfl
 have sf3 := BlkAt.free (S5.out.get 9 rfl) 3
 try dsimp only [Au.val] at *
 go_simp
 obtain ⟨w6,hw6⟩ : ∃ v,v = ((((w5.setCell ⟨w.heap.size + 1,0,none⟩ (.slice p.A1 a.al.length p.c1)).setCell ⟨w.heap.size + 1,1,none⟩ (.int .i64 a.n)).setCell ⟨w.heap.size + 1,2,none⟩ (.slice p.A2 a.mr.length p.c2)).setCell ⟨w.heap.size + 1,3,none⟩ (.slice p.A3 a.ed.length p.c3)) := ⟨_,rfl⟩
 rw [← hw6]
 have S6 : Hid (Sep w.heap.size w [eInts b.al (.slice q.A1 b.al.length q.c1),eInts b.mr (.slice q.A2 b.mr.length q.c2),eEds b.ed (.slice q.A3 b.ed.length q.c3),eInts (evV s1 5) (.slice Aeb (evV s1 5).length ceb),eInts a.al (.slice p.A1 a.al.length p.c1),eInts a.mr (.slice p.A2 a.mr.length p.c2),eEds a.ed (.slice p.A3 a.ed.length p.c3),eInts (evV s0 5) (.slice Aea (evV s0 5).length cea),eBlk (w.heap.size + 2) 35 [.slice none 0 0,.int .i64 0,.slice none 0 0,.slice none 0 0],eBlk (w.heap.size + 1) 35 [.slice p.A1 a.al.length p.c1,.int .i64 a.n,.slice p.A2 a.mr.length p.c2,.slice p.A3 a.ed.length p.c3],eBlk w.heap.size 30 (twoCells s0 s1 g0 g1)] w6) := by rw [hw6]; exact ((((S5.out.set 9 rfl 0 (.slice p.A1 a.al.length p.c1)).set 9 rfl 1 (.int .i64 a.n)).set 9 rfl 2 (.slice p.A2 a.mr.length p.c2)).set 9 rfl 3 (.slice p.A3 a.ed.length p.c3))
 clear hw6 sc0 sf0 sc1 sf1 sc2 sf2 sc3 sf3
 refine hK.out _ _ ?_ (fun hHeld => ?_)
 · exact S6.out.pick [10] (by decide)
 clear hK K
 try simp only [sx]
 refine rdH 17 rfl fun K hK => ?_
 have sc0 := ckC S6.out 8 rfl 0 rfl
 have sf0 := BlkAt.free (S6.out.get 8 rfl) 0
 have sc1 := ckC S6.out 8 rfl 1 rfl
 have sf1 := BlkAt.free (S6.out.get 8 rfl) 1
 have sc2 := ckC S6.out 8 rfl 2 rfl
 have sf2 := BlkAt.free (S6.out.get 8 rfl) 2
 have sc3 := ckC S6.out 8 rfl 3 rfl
 have sf3 := BlkAt.free (S6.out.get 8 rfl) 3
 try dsimp only [Au.val] at *
 go_simp
 obtain ⟨w7,hw7⟩ : ∃ v,v = ((((w6.setCell ⟨w.heap.size + 2,0,none⟩ (.slice q.A1 b.al.length q.c1)).setCell ⟨w.heap.size + 2,1,none⟩ (.int .i64 b.n)).setCell ⟨w.heap.size + 2,2,none⟩ (.slice q.A2 b.mr.length q.c2)).setCell ⟨w.heap.size + 2,3,none⟩ (.slice q.A3 b.ed.length q.c3)) := ⟨_,rfl⟩
 rw [← hw7]
 have S7 : Hid (Sep w.heap.size w [eInts b.al (.slice q.A1 b.al.length q.c1),eInts b.mr (.slice q.A2 b.mr.length q.c2),eEds b.ed (.slice q.A3 b.ed.length q.c3),eInts (evV s1 5) (.slice Aeb (evV s1 5).length ceb),eInts a.al (.slice p.A1 a.al.length p.c1),eInts a.mr (.slice p.A2 a.mr.length p.c2),eEds a.ed (.slice p.A3 a.ed.length p.c3),eInts (evV s0 5) (.slice Aea (evV s0 5).length cea),eBlk (w.heap.size + 2) 35 [.slice q.A1 b.al.length q.c1,.int .i64 b.n,.slice q.A2 b.mr.length q.c2,.slice q.A3 b.ed.length q.c3],eBlk (w.heap.size + 1) 35 [.slice p.A1 a.al.length p.c1,.int .i64 a.n,.slice p.A2 a.mr.length p.c2,.slice p.A3 a.ed.length p.c3],eBlk w.heap.size 30 (twoCells s0 s1 g0 g1)] w7) := by rw [hw7]; exact ((((S6.out.set 8 rfl 0 (.slice q.A1 b.al.length q.c1)).set 8 rfl 1 (.int .i64 b.n)).set 8 rfl 2 (.slice q.A2 b.mr.length q.c2)).set 8 rfl 3 (.slice q.A3 b.ed.length q.c3))
 clear hw7 sc0 sf0 sc1 sf1 sc2 sf2 sc3 sf3
 refine hK.out _ _ ?_ (fun hHeld => ?_)
 · exact S7.out.pick [10] (by decide)
 clear hK K
 try simp only [sx]
 refine wpAnyH_done (by kernel_rfl) ?_ _
 have r0 := ckC S7.out 9 rfl 0 rfl
 have r1 := ckC S7.out 9 rfl 1 rfl
 have r2 := ckC S7.out 9 rfl 2 rfl
 have r3 := ckC S7.out 9 rfl 3 rfl
 have u0 := ckC S7.out 8 rfl 0 rfl
 have u1 := ckC S7.out 8 rfl 1 rfl
 have u2 := ckC S7.out 8 rfl 2 rfl
 have u3 := ckC S7.out 8 rfl 3 rfl
 have SF : Hid (Sep w.heap.size w (eAu a p ++ eAu b q) w7) := S7.out.pick [4,5,6,0,1,2] (by decide)
 go_wp2_with fail
 refine bodyPost_ret (v := .tuple #[a.val p,b.val q]) (by simp [results,Tryd.results14,go_sem,Au.val, *]) rfl ?_
 exact ⟨a,p,b,q,rfl,SF.out,FA.out,FB.out,MKa.out,MKb.out⟩
set_option maxHeartbeats 16000000 in
theorem lawComb_c (s0 s1 : Int) (g0 g1 : Gr) (w : World) (h0 : 0 ≤ s0 ∧ s0 < 256) (h1 : 0 ≤ s1 ∧ s1 < 256) (hg0 : g0.Ok) (hg1 : g1.Ok) (ht : TabW w) :
 Calls Tryd.prog 8 #[.agg (twoCells s0 s1 g0 g1).toArray] w (Ret (.bool true) w) := by
 have H0 := Lib.hid h0
 have H1 := Lib.hid h1
 have HG0 := Lib.hid hg0
 have HG1 := Lib.hid hg1
 have HTAB := Lib.hid ht
 clear h0 h1 hg0 hg1 ht
 go_enter Tryd.func8,Tryd.ntmps8
 generalize hcs : twoCells s0 s1 g0 g1 = cs
 go_upto_region 1 with fail
 refine wp_world (fun W => Sep w.heap.size w [eBlk w.heap.size 30 cs] W) ?_ fun W S => ?_
 · exact (Sep.here w).alloc' _ cs rfl rfl
 rw [← hcs] at S
 have SA := Lib.hid S
 clear S hcs
 go_wp2_with fail
 refine (known_c W (HTAB.out.below SA.out.below)).mono ?_
 rintro e w1 ⟨rfl,hb⟩
 have SB := Lib.hid (SA.out.next hb)
 clear hb SA
 go_wp2_with (refine wpList_load_mid rfl 30 (.tmp 1) rfl w.heap.size 0 rfl (twoCells s0 s1 g0 g1) _ (BlkAt.rng (SB.out.get 0 rfl) (fun j v hv => by rw [Nat.zero_add]; exact hv)) Tryd.underlying30 rfl (by kernel_rfl) ?_)
 refine (make9w_c s0 s1 g0 g1 w1 H0.out H1.out HG0.out HG1.out).mono ?_
 rintro e w3 ⟨a,⟨A1,a1,A2,a2,A3,a3⟩,b,⟨B1,b1,B2,b2,B3,b3⟩,rfl,TT,GA,GB,EA,EB⟩
 have SD := ckN SB.out TT.out
 clear TT SB
 dsimp only [Au.val]
 obtain ⟨ta,hta⟩ : ∃ g,g = w3.heap.size := ⟨_,rfl⟩
 go_upto_region 4 with fail
 rw [← hta]
 refine wp_world (fun V => Sep w.heap.size w [eBlk (ta + 1) 35 [.slice B1 b.al.length b1,.int .i64 b.n,.slice B2 b.mr.length b2,.slice B3 b.ed.length b3],eBlk ta 35 [.slice A1 a.al.length a1,.int .i64 a.n,.slice A2 a.mr.length a2,.slice A3 a.ed.length a3],eInts a.al (.slice A1 a.al.length a1),eInts a.mr (.slice A2 a.mr.length a2),eEds a.ed (.slice A3 a.ed.length a3),eInts b.al (.slice B1 b.al.length b1),eInts b.mr (.slice B2 b.mr.length b2),eEds b.ed (.slice B3 b.ed.length b3),eBlk w.heap.size 30 (twoCells s0 s1 g0 g1)] V) ((SD.out.alloc' _ [_,_,_,_] rfl hta).alloc' _ [_,_,_,_] rfl (by rw [hta]; simp)) fun W0 S' => ?_
 have Q1 : Sep w.heap.size w [eBlk (ta + 1) 35 [.slice B1 b.al.length b1,.int .i64 b.n,.slice B2 b.mr.length b2,.slice B3 b.ed.length b3],eInts b.al (.slice B1 b.al.length b1),eInts b.mr (.slice B2 b.mr.length b2),eEds b.ed (.slice B3 b.ed.length b3),eBlk ta 35 [.slice A1 a.al.length a1,.int .i64 a.n,.slice A2 a.mr.length a2,.slice A3 a.ed.length a3],eInts a.al (.slice A1 a.al.length a1),eInts a.mr (.slice A2 a.mr.length a2),eEds a.ed (.slice A3 a.ed.length a3),eBlk w.heap.size 30 (twoCells s0 s1 g0 g1)] W0 := S'.pick [0,5,6,7,1,2,3,4,8] (by decide)
 have Q2 : Sep w.heap.size w [eBox (ta + 1) b ⟨B1,b1,B2,b2,B3,b3⟩,eBlk ta 35 [.slice A1 a.al.length a1,.int .i64 a.n,.slice A2 a.mr.length a2,.slice A3 a.ed.length a3],eInts a.al (.slice A1 a.al.length a1),eInts a.mr (.slice A2 a.mr.length a2),eEds a.ed (.slice A3 a.ed.length a3),eBlk w.heap.size 30 (twoCells s0 s1 g0 g1)] W0 := Q1.box
 have Q3 : Sep w.heap.size w [eBlk ta 35 [.slice A1 a.al.length a1,.int .i64 a.n,.slice A2 a.mr.length a2,.slice A3 a.ed.length a3],eInts a.al (.slice A1 a.al.length a1),eInts a.mr (.slice A2 a.mr.length a2),eEds a.ed (.slice A3 a.ed.length a3),eBox (ta + 1) b ⟨B1,b1,B2,b2,B3,b3⟩,eBlk w.heap.size 30 (twoCells s0 s1 g0 g1)] W0 := Q2.pick [1,2,3,4,0,5] (by decide)
 have S0 : Hid (Sep w.heap.size w [eBox ta a ⟨A1,a1,A2,a2,A3,a3⟩,eBox (ta + 1) b ⟨B1,b1,B2,b2,B3,b3⟩,eBlk w.heap.size 30 (twoCells s0 s1 g0 g1)] W0) := Q3.box
 clear S' SD hta Q1 Q2 Q3
 have HLa := Lib.hid GA.out.lens
 have HLb := Lib.hid GB.out.lens
 have na : a.n.toNat ≤ 5 := by have := GA.out.n; omega
 have nb : b.n.toNat ≤ 5 := by have := GB.out.n; omega
 have la0 := BlkAt.cell (S0.out.get 0 rfl).1 0
 have la1 := BlkAt.cell (S0.out.get 0 rfl).1 1
 have la2 := BlkAt.cell (S0.out.get 0 rfl).1 2
 have la3 := BlkAt.cell (S0.out.get 0 rfl).1 3
 have lb0 := BlkAt.cell (S0.out.get 1 rfl).1 0
 have lb1 := BlkAt.cell (S0.out.get 1 rfl).1 1
 have lb2 := BlkAt.cell (S0.out.get 1 rfl).1 2
 have lb3 := BlkAt.cell (S0.out.get 1 rfl).1 3
 simp only [List.getElem?_cons_succ,List.getElem?_cons_zero] at la0 la1 la2 la3 lb0 lb1 lb2 lb3
 go_wp2_with fail
 refine (intersect_c a b ⟨A1,a1,A2,a2,A3,a3⟩ ⟨B1,b1,B2,b2,B3,b3⟩ W0 (HTAB.out.below S0.out.below) GA.out.rt GB.out.rt (eBox.caps (S0.out.get 0 rfl)) (eBox.caps (S0.out.get 1 rfl)) (eBox.at (S0.out.get 0 rfl) HLa.out) (eBox.at (S0.out.get 1 rfl) HLb.out)).mono ?_
 rintro e w1 ⟨x,⟨X1,x1,X2,x2,X3,x3⟩,r,rfl,TT,HLx,RR⟩
 obtain ⟨rfl,hm,hal,hsz⟩ := RR.out.got GA.out.rt GB.out.rt (x := 5) (y := 5) na nb (by decide)
 have HMx := Lib.hid hm
 have HAx := Lib.hid hal
 have HSx := Lib.hid hsz
 have T1 := ckN S0.out TT.out
 clear TT RR hm hal hsz la0 la1 la2 la3 lb0 lb1 lb2 lb3 S0
 dsimp only [Au.val]
 obtain ⟨tx,ht⟩ : ∃ g,g = w1.heap.size := ⟨_,rfl⟩
 go_upto_region 5 with fail
 rw [← ht]
 refine wp_world (fun V => Sep w.heap.size w [eBlk tx 35 [.slice X1 x.al.length x1,.int .i64 x.n,.slice X2 x.mr.length x2,.slice X3 x.ed.length x3],eInts x.al (.slice X1 x.al.length x1),eInts x.mr (.slice X2 x.mr.length x2),eEds x.ed (.slice X3 x.ed.length x3),eBox ta a ⟨A1,a1,A2,a2,A3,a3⟩,eBox (ta + 1) b ⟨B1,b1,B2,b2,B3,b3⟩,eBlk w.heap.size 30 (twoCells s0 s1 g0 g1)] V) (T1.out.alloc' _ [_,_,_,_] rfl ht) fun W1 S' => ?_
 have S1 : Hid (Sep w.heap.size w [eBox tx x ⟨X1,x1,X2,x2,X3,x3⟩,eBox ta a ⟨A1,a1,A2,a2,A3,a3⟩,eBox (ta + 1) b ⟨B1,b1,B2,b2,B3,b3⟩,eBlk w.heap.size 30 (twoCells s0 s1 g0 g1)] W1) := S'.box
 clear S' T1 ht
 have la0 := BlkAt.cell (S1.out.get 1 rfl).1 0
 have la1 := BlkAt.cell (S1.out.get 1 rfl).1 1
 have la2 := BlkAt.cell (S1.out.get 1 rfl).1 2
 have la3 := BlkAt.cell (S1.out.get 1 rfl).1 3
 have lb0 := BlkAt.cell (S1.out.get 2 rfl).1 0
 have lb1 := BlkAt.cell (S1.out.get 2 rfl).1 1
 have lb2 := BlkAt.cell (S1.out.get 2 rfl).1 2
 have lb3 := BlkAt.cell (S1.out.get 2 rfl).1 3
 simp only [List.getElem?_cons_succ,List.getElem?_cons_zero] at la0 la1 la2 la3 lb0 lb1 lb2 lb3
 go_wp2_with fail
 refine (unionL_c a b ⟨A1,a1,A2,a2,A3,a3⟩ ⟨B1,b1,B2,b2,B3,b3⟩ W1 (HTAB.out.below S1.out.below) GA.out.rt GB.out.rt (eBox.caps (S1.out.get 1 rfl)) (eBox.caps (S1.out.get 2 rfl)) (eBox.at (S1.out.get 1 rfl) HLa.out) (eBox.at (S1.out.get 2 rfl) HLb.out)).mono ?_
 rintro e w2 ⟨y,⟨Y1,y1,Y2,y2,Y3,y3⟩,r,rfl,TT,HLy,RR⟩
 obtain ⟨rfl,hm,hal,hsz⟩ := RR.out.got GA.out.rt GB.out.rt (x := 5) (y := 5) na nb (by decide)
 have HMy := Lib.hid hm
 have HAy := Lib.hid hal
 have HSy := Lib.hid hsz
 have T2 := ckN S1.out TT.out
 clear TT RR hm hal hsz la0 la1 la2 la3 lb0 lb1 lb2 lb3 S1
 dsimp only [Au.val]
 obtain ⟨ty,ht⟩ : ∃ g,g = w2.heap.size := ⟨_,rfl⟩
 go_upto_region 6 with fail
 rw [← ht]
 refine wp_world (fun V => Sep w.heap.size w [eBlk ty 35 [.slice Y1 y.al.length y1,.int .i64 y.n,.slice Y2 y.mr.length y2,.slice Y3 y.ed.length y3],eInts y.al (.slice Y1 y.al.length y1),eInts y.mr (.slice Y2 y.mr.length y2),eEds y.ed (.slice Y3 y.ed.length y3),eBox tx x ⟨X1,x1,X2,x2,X3,x3⟩,eBox ta a ⟨A1,a1,A2,a2,A3,a3⟩,eBox (ta + 1) b ⟨B1,b1,B2,b2,B3,b3⟩,eBlk w.heap.size 30 (twoCells s0 s1 g0 g1)] V) (T2.out.alloc' _ [_,_,_,_] rfl ht) fun W2 S' => ?_
 have S2 : Hid (Sep w.heap.size w [eBox ty y ⟨Y1,y1,Y2,y2,Y3,y3⟩,eBox tx x ⟨X1,x1,X2,x2,X3,x3⟩,eBox ta a ⟨A1,a1,A2,a2,A3,a3⟩,eBox (ta + 1) b ⟨B1,b1,B2,b2,B3,b3⟩,eBlk w.heap.size 30 (twoCells s0 s1 g0 g1)] W2) := S'.box
 clear S' T2 ht
 have la0 := BlkAt.cell (S2.out.get 2 rfl).1 0
 have la1 := BlkAt.cell (S2.out.get 2 rfl).1 1
 have la2 := BlkAt.cell (S2.out.get 2 rfl).1 2
 have la3 := BlkAt.cell (S2.out.get 2 rfl).1 3
 have lb0 := BlkAt.cell (S2.out.get 3 rfl).1 0
 have lb1 := BlkAt.cell (S2.out.get 3 rfl).1 1
 have lb2 := BlkAt.cell (S2.out.get 3 rfl).1 2
 have lb3 := BlkAt.cell (S2.out.get 3 rfl).1 3
 simp only [List.getElem?_cons_succ,List.getElem?_cons_zero] at la0 la1 la2 la3 lb0 lb1 lb2 lb3
 go_wp2_with fail
 refine (difference_c a b ⟨A1,a1,A2,a2,A3,a3⟩ ⟨B1,b1,B2,b2,B3,b3⟩ W2 (HTAB.out.below S2.out.below) GA.out.rt GB.out.rt (eBox.caps (S2.out.get 2 rfl)) (eBox.caps (S2.out.get 3 rfl)) (eBox.at (S2.out.get 2 rfl) HLa.out) (eBox.at (S2.out.get 3 rfl) HLb.out)).mono ?_
 rintro e w3 ⟨z,⟨Z1,z1,Z2,z2,Z3,z3⟩,r,rfl,TT,HLz,RR⟩
 obtain ⟨rfl,hm,hal,hsz⟩ := RR.out.got GA.out.rt GB.out.rt (x := 5) (y := 5) na nb (by decide)
 have HMz := Lib.hid hm
 have HAz := Lib.hid hal
 have HSz := Lib.hid hsz
 have T3 := ckN S2.out TT.out
 clear TT RR hm hal hsz la0 la1 la2 la3 lb0 lb1 lb2 lb3 S2
 dsimp only [Au.val]
 obtain ⟨tz,ht⟩ : ∃ g,g = w3.heap.size := ⟨_,rfl⟩
 go_upto_region 7 with fail
 rw [← ht]
 refine wp_world (fun V => Sep w.heap.size w [eBlk tz 35 [.slice Z1 z.al.length z1,.int .i64 z.n,.slice Z2 z.mr.length z2,.slice Z3 z.ed.length z3],eInts z.al (.slice Z1 z.al.length z1),eInts z.mr (.slice Z2 z.mr.length z2),eEds z.ed (.slice Z3 z.ed.length z3),eBox ty y ⟨Y1,y1,Y2,y2,Y3,y3⟩,eBox tx x ⟨X1,x1,X2,x2,X3,x3⟩,eBox ta a ⟨A1,a1,A2,a2,A3,a3⟩,eBox (ta + 1) b ⟨B1,b1,B2,b2,B3,b3⟩,eBlk w.heap.size 30 (twoCells s0 s1 g0 g1)] V) (T3.out.alloc' _ [_,_,_,_] rfl ht) fun W3 S' => ?_
 have S3 : Hid (Sep w.heap.size w [eBox tz z ⟨Z1,z1,Z2,z2,Z3,z3⟩,eBox ty y ⟨Y1,y1,Y2,y2,Y3,y3⟩,eBox tx x ⟨X1,x1,X2,x2,X3,x3⟩,eBox ta a ⟨A1,a1,A2,a2,A3,a3⟩,eBox (ta + 1) b ⟨B1,b1,B2,b2,B3,b3⟩,eBlk w.heap.size 30 (twoCells s0 s1 g0 g1)] W3) := S'.box
 clear S' T3 ht
 go_wp2_with (refine wpList_load_mid rfl 30 (.tmp 1) rfl w.heap.size 0 rfl (twoCells s0 s1 g0 g1) _ (BlkAt.rng (S3.out.get 5 rfl) (fun j v hv => by rw [Nat.zero_add]; exact hv)) Tryd.underlying30 rfl (by kernel_rfl) ?_)
 refine (make9w_c s0 s1 g0 g1 W3 H0.out H1.out HG0.out HG1.out).mono ?_
 rintro e v3 ⟨c,⟨C1,c1,C2,c2,C3,c3⟩,d,⟨D1,d1,D2,d2,D3,d3⟩,rfl,TT,GC,GE,EC,ED⟩
 obtain rfl : a = c := EA.out.symm.trans EC.out
 obtain rfl : b = d := EB.out.symm.trans ED.out
 have SD := ckN S3.out TT.out
 clear TT S3 GC GE EC ED
 dsimp only [Au.val]
 obtain ⟨tc,htc⟩ : ∃ g,g = v3.heap.size := ⟨_,rfl⟩
 go_upto_region 8 with fail
 rw [← htc]
 refine wp_world (fun V => Sep w.heap.size w [eBlk (tc + 1) 35 [.slice D1 b.al.length d1,.int .i64 b.n,.slice D2 b.mr.length d2,.slice D3 b.ed.length d3],eBlk tc 35 [.slice C1 a.al.length c1,.int .i64 a.n,.slice C2 a.mr.length c2,.slice C3 a.ed.length c3],eInts a.al (.slice C1 a.al.length c1),eInts a.mr (.slice C2 a.mr.length c2),eEds a.ed (.slice C3 a.ed.length c3),eInts b.al (.slice D1 b.al.length d1),eInts b.mr (.slice D2 b.mr.length d2),eEds b.ed (.slice D3 b.ed.length d3),eBox tz z ⟨Z1,z1,Z2,z2,Z3,z3⟩,eBox ty y ⟨Y1,y1,Y2,y2,Y3,y3⟩,eBox tx x ⟨X1,x1,X2,x2,X3,x3⟩,eBox ta a ⟨A1,a1,A2,a2,A3,a3⟩,eBox (ta + 1) b ⟨B1,b1,B2,b2,B3,b3⟩,eBlk w.heap.size 30 (twoCells s0 s1 g0 g1)] V) ((SD.out.alloc' _ [_,_,_,_] rfl htc).alloc' _ [_,_,_,_] rfl (by rw [htc]; simp)) fun W4 S' => ?_
 have Q1 : Sep w.heap.size w [eBlk (tc + 1) 35 [.slice D1 b.al.length d1,.int .i64 b.n,.slice D2 b.mr.length d2,.slice D3 b.ed.length d3],eInts b.al (.slice D1 b.al.length d1),eInts b.mr (.slice D2 b.mr.length d2),eEds b.ed (.slice D3 b.ed.length d3),eBlk tc 35 [.slice C1 a.al.length c1,.int .i64 a.n,.slice C2 a.mr.length c2,.slice C3 a.ed.length c3],eInts a.al (.slice C1 a.al.length c1),eInts a.mr (.slice C2 a.mr.length c2),eEds a.ed (.slice C3 a.ed.length c3),eBox tz z ⟨Z1,z1,Z2,z2,Z3,z3⟩,eBox ty y ⟨Y1,y1,Y2,y2,Y3,y3⟩,eBox tx x ⟨X1,x1,X2,x2,X3,x3⟩,eBox ta a ⟨A1,a1,A2,a2,A3,a3⟩,eBox (ta + 1) b ⟨B1,b1,B2,b2,B3,b3⟩,eBlk w.heap.size 30 (twoCells s0 s1 g0 g1)] W4 := S'.pick [0,5,6,7,1,2,3,4,8,9,10,11,12,13] (by decide)
 have Q2 : Sep w.heap.size w [eBox (tc + 1) b ⟨D1,d1,D2,d2,D3,d3⟩,eBlk tc 35 [.slice C1 a.al.length c1,.int .i64 a.n,.slice C2 a.mr.length c2,.slice C3 a.ed.length c3],eInts a.al (.slice C1 a.al.length c1),eInts a.mr (.slice C2 a.mr.length c2),eEds a.ed (.slice C3 a.ed.length c3),eBox tz z ⟨Z1,z1,Z2,z2,Z3,z3⟩,eBox ty y ⟨Y1,y1,Y2,y2,Y3,y3⟩,eBox tx x ⟨X1,x1,X2,x2,X3,x3⟩,eBox ta a ⟨A1,a1,A2,a2,A3,a3⟩,eBox (ta + 1) b ⟨B1,b1,B2,b2,B3,b3⟩,eBlk w.heap.size 30 (twoCells s0 s1 g0 g1)] W4 := Q1.box
 have Q3 : Sep w.heap.size w [eBlk tc 35 [.slice C1 a.al.length c1,.int .i64 a.n,.slice C2 a.mr.length c2,.slice C3 a.ed.length c3],eInts a.al (.slice C1 a.al.length c1),eInts a.mr (.slice C2 a.mr.length c2),eEds a.ed (.slice C3 a.ed.length c3),eBox (tc + 1) b ⟨D1,d1,D2,d2,D3,d3⟩,eBox tz z ⟨Z1,z1,Z2,z2,Z3,z3⟩,eBox ty y ⟨Y1,y1,Y2,y2,Y3,y3⟩,eBox tx x ⟨X1,x1,X2,x2,X3,x3⟩,eBox ta a ⟨A1,a1,A2,a2,A3,a3⟩,eBox (ta + 1) b ⟨B1,b1,B2,b2,B3,b3⟩,eBlk w.heap.size 30 (twoCells s0 s1 g0 g1)] W4 := Q2.pick [1,2,3,4,0,5,6,7,8,9,10] (by decide)
 have S4 : Hid (Sep w.heap.size w [eBox tc a ⟨C1,c1,C2,c2,C3,c3⟩,eBox (tc + 1) b ⟨D1,d1,D2,d2,D3,d3⟩,eBox tz z ⟨Z1,z1,Z2,z2,Z3,z3⟩,eBox ty y ⟨Y1,y1,Y2,y2,Y3,y3⟩,eBox tx x ⟨X1,x1,X2,x2,X3,x3⟩,eBox ta a ⟨A1,a1,A2,a2,A3,a3⟩,eBox (ta + 1) b ⟨B1,b1,B2,b2,B3,b3⟩,eBlk w.heap.size 30 (twoCells s0 s1 g0 g1)] W4) := Q3.box
 clear S' SD htc Q1 Q2 Q3
 have S1 := Lib.hid S4.out.drew
 refine wp_region_held_drew (S := (fun V => Sep w.heap.size w [eBox tx x ⟨X1,x1,X2,x2,X3,x3⟩,eBox ty y ⟨Y1,y1,Y2,y2,Y3,y3⟩,eBox tz z ⟨Z1,z1,Z2,z2,Z3,z3⟩,eBox ta a ⟨A1,a1,A2,a2,A3,a3⟩,eBox (ta + 1) b ⟨B1,b1,B2,b2,B3,b3⟩,eBox tc a ⟨C1,c1,C2,c2,C3,c3⟩,eBox (tc + 1) b ⟨D1,d1,D2,d2,D3,d3⟩] V)) (by kernel_rfl) ?_ (fun hHeld => ?_)
 · exact S1.out.pick [4,3,2,5,6,0,1] (by decide)
 generalize hwz : W4.drew = w1 at *
 clear hwz
 refine tkP 0 rfl (v := ?_) hHeld ?_
 try simp only [sx]
 refine tkP 1 rfl (v := ?_) hHeld ?_
 try simp only [sx]
 refine tkP 2 rfl (v := ?_) hHeld ?_
 try simp only [sx]
 refine tkP 3 rfl (v := ?_) hHeld ?_
 try simp only [sx]
 refine tkP 4 rfl (v := ?_) hHeld ?_
 try simp only [sx]
 refine tkP 5 rfl (v := ?_) hHeld ?_
 try simp only [sx]
 refine tkP 6 rfl (v := ?_) hHeld ?_
 try simp only [sx]
 refine tkP 7 rfl (v := ?_) hHeld ?_
 try simp only [sx]
 refine tkP 8 rfl (v := ?_) hHeld ?_
 try simp only [sx]
 refine tkP 9 rfl (v := ?_) hHeld ?_
 try simp only [sx]
 refine tkP 10 rfl (v := ?_) hHeld ?_
 try simp only [sx]
 refine tkH 11 rfl (v := ?_) (by kernel_rfl) ?_ hHeld ?_
 rotate_left
 · intro V hSw
   have c0 := BlkAt.cell (Sep.get (show Sep w.heap.size w _ V from hSw) 0 rfl).1 0
   have c1 := BlkAt.cell (Sep.get (show Sep w.heap.size w _ V from hSw) 0 rfl).1 1
   have c2 := BlkAt.cell (Sep.get (show Sep w.heap.size w _ V from hSw) 0 rfl).1 2
   have c3 := BlkAt.cell (Sep.get (show Sep w.heap.size w _ V from hSw) 0 rfl).1 3
   simp only [List.getElem?_cons_succ,List.getElem?_cons_zero] at c0 c1 c2 c3
   clear hSw
   first | (go_simp; done) | (go_simp; with_reducible rfl)
 try simp only [sx]
 refine tkH 12 rfl (v := ?_) (by kernel_rfl) ?_ hHeld ?_
 rotate_left
 · intro V hSw
   have c0 := BlkAt.cell (Sep.get (show Sep w.heap.size w _ V from hSw) 3 rfl).1 0
   have c1 := BlkAt.cell (Sep.get (show Sep w.heap.size w _ V from hSw) 3 rfl).1 1
   have c2 := BlkAt.cell (Sep.get (show Sep w.heap.size w _ V from hSw) 3 rfl).1 2
   have c3 := BlkAt.cell (Sep.get (show Sep w.heap.size w _ V from hSw) 3 rfl).1 3
   simp only [List.getElem?_cons_succ,List.getElem?_cons_zero] at c0 c1 c2 c3
   clear hSw
   first | (go_simp; done) | (go_simp; with_reducible rfl)
 try simp only [sx]
 refine tkH 13 rfl (v := ?_) (by kernel_rfl) ?_ hHeld ?_
 rotate_left
 · intro V hSw
   have c0 := BlkAt.cell (Sep.get (show Sep w.heap.size w _ V from hSw) 4 rfl).1 0
   have c1 := BlkAt.cell (Sep.get (show Sep w.heap.size w _ V from hSw) 4 rfl).1 1
   have c2 := BlkAt.cell (Sep.get (show Sep w.heap.size w _ V from hSw) 4 rfl).1 2
   have c3 := BlkAt.cell (Sep.get (show Sep w.heap.size w _ V from hSw) 4 rfl).1 3
   simp only [List.getElem?_cons_succ,List.getElem?_cons_zero] at c0 c1 c2 c3
   clear hSw
   first | (go_simp; done) | (go_simp; with_reducible rfl)
 try simp only [sx]
 refine rdH 14 rfl fun K hK => ?_
 go_simp
 refine (combine9_c a b ⟨A1,a1,A2,a2,A3,a3⟩ ⟨B1,b1,B2,b2,B3,b3⟩ 1 (fun x y => x && y) w1 (.inl ⟨rfl,rfl⟩) GA.out.rt GB.out.rt (eBox.at (Sep.get S1.out 5 rfl) HLa.out) (eBox.at (Sep.get S1.out 6 rfl) HLb.out) (Nat.le_trans (Nat.mul_le_mul (show a.n.toNat + 1 ≤ 6 by omega) (show b.n.toNat + 1 ≤ 6 by omega)) (by decide))).mono ?_
 rintro e w2 ⟨m,⟨K1,k1,K2,k2,K3,k3⟩,rfl,TM,HLK,HMm,hma⟩
 obtain rfl : x = m := HMx.out.uniq HMm.out (HAx.out.trans hma.symm)
 have S2 := ckN S1.out TM.out
 clear TM hma HMm
 dsimp only [Au.val]
 refine hK.out _ _ ?_ (fun hHeld => ?_)
 · exact S2.out.pick [7,6,5,8,9,3,4] (by decide)
 clear hK K
 try simp only [sx]
 refine rdH 15 rfl fun K hK => ?_
 go_simp
 refine (same3_c x ⟨X1,x1,X2,x2,X3,x3⟩ ⟨K1,k1,K2,k2,K3,k3⟩ w2 (eBox.at (Sep.get S2.out 7 rfl) HLx.out) ⟨S2.out.ints 0 rfl,S2.out.ints 1 rfl,S2.out.eds 2 rfl,HLK.out.1,HLK.out.2.1,HLK.out.2.2⟩).mono ?_
 rintro e w3 ⟨rfl,hb⟩
 have S3 := Lib.hid (S2.out.next hb)
 clear hb
 refine hK.out _ _ ?_ (fun hHeld => ?_)
 · exact S3.out.pick [7,6,5,8,9,3,4] (by decide)
 clear hK K
 try simp only [sx]
 refine tkP 16 rfl (v := ?_) hHeld ?_
 try simp only [sx]
 refine tkP 17 rfl (v := ?_) hHeld ?_
 try simp only [sx]
 refine tkH 18 rfl (v := ?_) (by kernel_rfl) ?_ hHeld ?_
 rotate_left
 · intro V hSw
   have c0 := BlkAt.cell (Sep.get (show Sep w.heap.size w _ V from hSw) 1 rfl).1 0
   have c1 := BlkAt.cell (Sep.get (show Sep w.heap.size w _ V from hSw) 1 rfl).1 1
   have c2 := BlkAt.cell (Sep.get (show Sep w.heap.size w _ V from hSw) 1 rfl).1 2
   have c3 := BlkAt.cell (Sep.get (show Sep w.heap.size w _ V from hSw) 1 rfl).1 3
   simp only [List.getElem?_cons_succ,List.getElem?_cons_zero] at c0 c1 c2 c3
   clear hSw
   first | (go_simp; done) | (go_simp; with_reducible rfl)
 try simp only [sx]
 refine tkH 19 rfl (v := ?_) (by kernel_rfl) ?_ hHeld ?_
 rotate_left
 · intro V hSw
   have c0 := BlkAt.cell (Sep.get (show Sep w.heap.size w _ V from hSw) 3 rfl).1 0
   have c1 := BlkAt.cell (Sep.get (show Sep w.heap.size w _ V from hSw) 3 rfl).1 1
   have c2 := BlkAt.cell (Sep.get (show Sep w.heap.size w _ V from hSw) 3 rfl).1 2
   have c3 := BlkAt.cell (Sep.get (show Sep w.heap.size w _ V from hSw) 3 rfl).1 3
   simp only [List.getElem?_cons_succ,List.getElem?_cons_zero] at c0 c1 c2 c3
   clear hSw
   first | (go_simp; done) | (go_simp; with_reducible rfl)
 try simp only [sx]
 refine tkH 20 rfl (v := ?_) (by kernel_rfl) ?_ hHeld ?_
 rotate_left
 · intro V hSw
   have c0 := BlkAt.cell (Sep.get (show Sep w.heap.size w _ V from hSw) 4 rfl).1 0
   have c1 := BlkAt.cell (Sep.get (show Sep w.heap.size w _ V from hSw) 4 rfl).1 1
   have c2 := BlkAt.cell (Sep.get (show Sep w.heap.size w _ V from hSw) 4 rfl).1 2
   have c3 := BlkAt.cell (Sep.get (show Sep w.heap.size w _ V from hSw) 4 rfl).1 3
   simp only [List.getElem?_cons_succ,List.getElem?_cons_zero] at c0 c1 c2 c3
   clear hSw
   first | (go_simp; done) | (go_simp; with_reducible rfl)
 try simp only [sx]
 refine rdH 21 rfl fun K hK => ?_
 go_simp
 refine (combine9_c a b ⟨A1,a1,A2,a2,A3,a3⟩ ⟨B1,b1,B2,b2,B3,b3⟩ 2 (fun x y => x || y) w3 (.inr (.inl ⟨rfl,rfl⟩)) GA.out.rt GB.out.rt (eBox.at (Sep.get S3.out 8 rfl) HLa.out) (eBox.at (Sep.get S3.out 9 rfl) HLb.out) (Nat.le_trans (Nat.mul_le_mul (show a.n.toNat + 1 ≤ 6 by omega) (show b.n.toNat + 1 ≤ 6 by omega)) (by decide))).mono ?_
 rintro e w4 ⟨m,⟨L1,l1,L2,l2,L3,l3⟩,rfl,TM,HLL,HMm,hma⟩
 obtain rfl : y = m := HMy.out.uniq HMm.out (HAy.out.trans hma.symm)
 have S4 := ckN S3.out TM.out
 clear TM hma HMm
 dsimp only [Au.val]
 refine hK.out _ _ ?_ (fun hHeld => ?_)
 · exact S4.out.pick [10,9,8,11,12,6,7] (by decide)
 clear hK K
 try simp only [sx]
 refine rdH 22 rfl fun K hK => ?_
 go_simp
 refine (same3_c y ⟨Y1,y1,Y2,y2,Y3,y3⟩ ⟨L1,l1,L2,l2,L3,l3⟩ w4 (eBox.at (Sep.get S4.out 9 rfl) HLy.out) ⟨S4.out.ints 0 rfl,S4.out.ints 1 rfl,S4.out.eds 2 rfl,HLL.out.1,HLL.out.2.1,HLL.out.2.2⟩).mono ?_
 rintro e w5 ⟨rfl,hb⟩
 have S5 := Lib.hid (S4.out.next hb)
 clear hb
 refine hK.out _ _ ?_ (fun hHeld => ?_)
 · exact S5.out.pick [10,9,8,11,12,6,7] (by decide)
 clear hK K
 try simp only [sx]
 refine tkP 23 rfl (v := ?_) hHeld ?_
 try simp only [sx]
 refine tkP 24 rfl (v := ?_) hHeld ?_
 try simp only [sx]
 refine tkH 25 rfl (v := ?_) (by kernel_rfl) ?_ hHeld ?_
 rotate_left
 · intro V hSw
   have c0 := BlkAt.cell (Sep.get (show Sep w.heap.size w _ V from hSw) 2 rfl).1 0
   have c1 := BlkAt.cell (Sep.get (show Sep w.heap.size w _ V from hSw) 2 rfl).1 1
   have c2 := BlkAt.cell (Sep.get (show Sep w.heap.size w _ V from hSw) 2 rfl).1 2
   have c3 := BlkAt.cell (Sep.get (show Sep w.heap.size w _ V from hSw) 2 rfl).1 3
   simp only [List.getElem?_cons_succ,List.getElem?_cons_zero] at c0 c1 c2 c3
   clear hSw
   first | (go_simp; done) | (go_simp; with_reducible rfl)
 try simp only [sx]
 refine tkH 26 rfl (v := ?_) (by kernel_rfl) ?_ hHeld ?_
 rotate_left
 · intro V hSw
   have c0 := BlkAt.cell (Sep.get (show Sep w.heap.size w _ V from hSw) 3 rfl).1 0
   have c1 := BlkAt.cell (Sep.get (show Sep w.heap.size w _ V from hSw) 3 rfl).1 1
   have c2 := BlkAt.cell (Sep.get (show Sep w.heap.size w _ V from hSw) 3 rfl).1 2
   have c3 := BlkAt.cell (Sep.get (show Sep w.heap.size w _ V from hSw) 3 rfl).1 3
   simp only [List.getElem?_cons_succ,List.getElem?_cons_zero] at c0 c1 c2 c3
   clear hSw
   first | (go_simp; done) | (go_simp; with_reducible rfl)
 try simp only [sx]
 refine tkH 27 rfl (v := ?_) (by kernel_rfl) ?_ hHeld ?_
 rotate_left
 · intro V hSw
   have c0 := BlkAt.cell (Sep.get (show Sep w.heap.size w _ V from hSw) 4 rfl).1 0
   have c1 := BlkAt.cell (Sep.get (show Sep w.heap.size w _ V from hSw) 4 rfl).1 1
   have c2 := BlkAt.cell (Sep.get (show Sep w.heap.size w _ V from hSw) 4 rfl).1 2
   have c3 := BlkAt.cell (Sep.get (show Sep w.heap.size w _ V from hSw) 4 rfl).1 3
   simp only [List.getElem?_cons_succ,List.getElem?_cons_zero] at c0 c1 c2 c3
   clear hSw
   first | (go_simp; done) | (go_simp; with_reducible rfl)
 try simp only [sx]
 refine rdH 28 rfl fun K hK => ?_
 go_simp
 refine (combine9_c a b ⟨A1,a1,A2,a2,A3,a3⟩ ⟨B1,b1,B2,b2,B3,b3⟩ 3 (fun x y => x && !y) w5 (.inr (.inr ⟨rfl,rfl⟩)) GA.out.rt GB.out.rt (eBox.at (Sep.get S5.out 11 rfl) HLa.out) (eBox.at (Sep.get S5.out 12 rfl) HLb.out) (Nat.le_trans (Nat.mul_le_mul (show a.n.toNat + 1 ≤ 6 by omega) (show b.n.toNat + 1 ≤ 6 by omega)) (by decide))).mono ?_
 rintro e w6 ⟨m,⟨M1,m1,M2,m2,M3,m3⟩,rfl,TM,HLM,HMm,hma⟩
 obtain rfl : z = m := HMz.out.uniq HMm.out (HAz.out.trans hma.symm)
 have S6 := ckN S5.out TM.out
 clear TM hma HMm
 dsimp only [Au.val]
 refine hK.out _ _ ?_ (fun hHeld => ?_)
 · exact S6.out.pick [13,12,11,14,15,9,10] (by decide)
 clear hK K
 try simp only [sx]
 refine rdH 29 rfl fun K hK => ?_
 go_simp
 refine (same3_c z ⟨Z1,z1,Z2,z2,Z3,z3⟩ ⟨M1,m1,M2,m2,M3,m3⟩ w6 (eBox.at (Sep.get S6.out 11 rfl) HLz.out) ⟨S6.out.ints 0 rfl,S6.out.ints 1 rfl,S6.out.eds 2 rfl,HLM.out.1,HLM.out.2.1,HLM.out.2.2⟩).mono ?_
 rintro e w7 ⟨rfl,hb⟩
 have S7 := Lib.hid (S6.out.next hb)
 clear hb
 refine hK.out _ _ ?_ (fun hHeld => ?_)
 · exact S7.out.pick [13,12,11,14,15,9,10] (by decide)
 clear hK K
 try simp only [sx]
 refine tkP 30 rfl (v := ?_) hHeld ?_
 try simp only [sx]
 refine tkP 31 rfl (v := ?_) hHeld ?_
 try simp only [sx]
 refine tkH 32 rfl (v := ?_) (by kernel_rfl) ?_ hHeld ?_
 rotate_left
 · intro V hSw
   have c0 := BlkAt.cell (Sep.get (show Sep w.heap.size w _ V from hSw) 3 rfl).1 0
   have c1 := BlkAt.cell (Sep.get (show Sep w.heap.size w _ V from hSw) 3 rfl).1 1
   have c2 := BlkAt.cell (Sep.get (show Sep w.heap.size w _ V from hSw) 3 rfl).1 2
   have c3 := BlkAt.cell (Sep.get (show Sep w.heap.size w _ V from hSw) 3 rfl).1 3
   simp only [List.getElem?_cons_succ,List.getElem?_cons_zero] at c0 c1 c2 c3
   clear hSw
   first | (go_simp; done) | (go_simp; with_reducible rfl)
 try simp only [sx]
 refine tkH 33 rfl (v := ?_) (by kernel_rfl) ?_ hHeld ?_
 rotate_left
 · intro V hSw
   have c0 := BlkAt.cell (Sep.get (show Sep w.heap.size w _ V from hSw) 5 rfl).1 0
   have c1 := BlkAt.cell (Sep.get (show Sep w.heap.size w _ V from hSw) 5 rfl).1 1
   have c2 := BlkAt.cell (Sep.get (show Sep w.heap.size w _ V from hSw) 5 rfl).1 2
   have c3 := BlkAt.cell (Sep.get (show Sep w.heap.size w _ V from hSw) 5 rfl).1 3
   simp only [List.getElem?_cons_succ,List.getElem?_cons_zero] at c0 c1 c2 c3
   clear hSw
   first | (go_simp; done) | (go_simp; with_reducible rfl)
 try simp only [sx]
 refine rdH 34 rfl fun K hK => ?_
 go_simp
 refine (same3_c a ⟨A1,a1,A2,a2,A3,a3⟩ ⟨C1,c1,C2,c2,C3,c3⟩ w7 (eBox.at (Sep.get S7.out 14 rfl) HLa.out) (eBox.at (Sep.get S7.out 9 rfl) HLa.out)).mono ?_
 rintro e w8 ⟨rfl,hb⟩
 have S8 := Lib.hid (S7.out.next hb)
 clear hb
 refine hK.out _ _ ?_ (fun hHeld => ?_)
 · exact S8.out.pick [13,12,11,14,15,9,10] (by decide)
 clear hK K
 try simp only [sx]
 refine tkP 35 rfl (v := ?_) hHeld ?_
 try simp only [sx]
 refine tkP 36 rfl (v := ?_) hHeld ?_
 try simp only [sx]
 refine tkH 37 rfl (v := ?_) (by kernel_rfl) ?_ hHeld ?_
 rotate_left
 · intro V hSw
   have c0 := BlkAt.cell (Sep.get (show Sep w.heap.size w _ V from hSw) 4 rfl).1 0
   have c1 := BlkAt.cell (Sep.get (show Sep w.heap.size w _ V from hSw) 4 rfl).1 1
   have c2 := BlkAt.cell (Sep.get (show Sep w.heap.size w _ V from hSw) 4 rfl).1 2
   have c3 := BlkAt.cell (Sep.get (show Sep w.heap.size w _ V from hSw) 4 rfl).1 3
   simp only [List.getElem?_cons_succ,List.getElem?_cons_zero] at c0 c1 c2 c3
   clear hSw
   first | (go_simp; done) | (go_simp; with_reducible rfl)
 try simp only [sx]
 refine tkH 38 rfl (v := ?_) (by kernel_rfl) ?_ hHeld ?_
 rotate_left
 · intro V hSw
   have c0 := BlkAt.cell (Sep.get (show Sep w.heap.size w _ V from hSw) 6 rfl).1 0
   have c1 := BlkAt.cell (Sep.get (show Sep w.heap.size w _ V from hSw) 6 rfl).1 1
   have c2 := BlkAt.cell (Sep.get (show Sep w.heap.size w _ V from hSw) 6 rfl).1 2
   have c3 := BlkAt.cell (Sep.get (show Sep w.heap.size w _ V from hSw) 6 rfl).1 3
   simp only [List.getElem?_cons_succ,List.getElem?_cons_zero] at c0 c1 c2 c3
   clear hSw
   first | (go_simp; done) | (go_simp; with_reducible rfl)
 try simp only [sx]
 refine rdH 39 rfl fun K hK => ?_
 go_simp
 refine (same3_c b ⟨B1,b1,B2,b2,B3,b3⟩ ⟨D1,d1,D2,d2,D3,d3⟩ w8 (eBox.at (Sep.get S8.out 15 rfl) HLb.out) (eBox.at (Sep.get S8.out 10 rfl) HLb.out)).mono ?_
 rintro e w9 ⟨rfl,hb⟩
 have S9 := Lib.hid (S8.out.next hb)
 clear hb
 refine hK.out _ _ ?_ (fun hHeld => ?_)
 · exact S9.out.pick [13,12,11,14,15,9,10] (by decide)
 clear hK K
 try simp only [sx]
 refine tkP 40 rfl (v := ?_) hHeld ?_
 try simp only [sx]
 refine tkP 41 rfl (v := ?_) hHeld ?_
 try simp only [sx]
 refine wpAnyH_done (by kernel_rfl) ?_ _
 go_wp2_with fail
 go_ret
 exact ⟨rfl,S9.out.below⟩
section
open Go.ChangeShapes Go.WideShapes Go.ChangeAt Go.RowKit
section
variable {H : Type} {enc : TypeId × Value → H} {w : World} {base : Nat} {spare : Nat → Bool} {held : Bool}

theorem u8_bounds {n : Int} (h : (Lit.int .u8 n).wf = true) : 0 ≤ n ∧ n < 256 := by
 simp [Lit.wf,IntKind.min,IntKind.max,IntKind.signed,IntKind.bits] at h; omega
theorem list5 {α : Type} {cs : List α} (h : cs.length = 5) : ∃ c0 c1 c2 c3 c4,cs = [c0,c1,c2,c3,c4] := by
 match cs,h with
 | [c0,c1,c2,c3,c4],_ => exact ⟨c0,c1,c2,c3,c4,rfl⟩
theorem cut5 {α : Type} {cs : List α} (h : cs.length = 25) : cs = (cs.drop 0).take 5 ++ ((cs.drop 5).take 5 ++ ((cs.drop 10).take 5 ++ ((cs.drop 15).take 5 ++ (cs.drop 20).take 5))) := by
 have e4 : (cs.drop 20).take 5 = cs.drop 20 := List.take_of_length_le (by simp [h])
 have e3 : (cs.drop 15).take 5 ++ cs.drop 20 = cs.drop 15 := by have := List.take_append_drop 5 (cs.drop 15); rwa [List.drop_drop] at this
 have e2 : (cs.drop 10).take 5 ++ cs.drop 15 = cs.drop 10 := by have := List.take_append_drop 5 (cs.drop 10); rwa [List.drop_drop] at this
 have e1 : (cs.drop 5).take 5 ++ cs.drop 10 = cs.drop 5 := by have := List.take_append_drop 5 (cs.drop 5); rwa [List.drop_drop] at this
 rw [e4,e3,e2,e1,List.drop_zero,List.take_append_drop]

theorem b5_of {P : Program} {t e : TypeId} (ht : P.underlying t = some (.array 5 e)) (he : P.underlying e = some (.int .u8)) (hc : P.cellsOf t = 5) (hce : P.cellsOf e = 1) {fuel : Nat} {cs : List Value} {x : DataW H × List MemPlace}
 (h : DataW.trod enc P w base spare held fuel t cs = some x) : ∃ f : B5,f.Ok ∧ cs = f.cells := by
 obtain ⟨xs,m,_,_,hl,hlen,hf⟩ := DataW.trod_array ht h
 obtain ⟨c0,c1,c2,c3,c4,rfl⟩ := list5 (hl.trans hc)
 have g : ∀ i,i < 5 → ∀ c,([c0,c1,c2,c3,c4].drop i).take 1 = [c] → ∃ n,c = .int .u8 n ∧ 0 ≤ n ∧ n < 256 := fun i hi c hcc => by
  have h1 := hf i hi
  rw [hce,Nat.mul_one,hcc,List.getElem?_eq_getElem (by omega)] at h1
  obtain ⟨n,hn,_,hw⟩ := DataW.trod_int he h1
  cases hn
  exact ⟨n,rfl,u8_bounds hw⟩
 obtain ⟨x0,rfl,b0⟩ := g 0 (by omega) c0 rfl
 obtain ⟨x1,rfl,b1⟩ := g 1 (by omega) c1 rfl
 obtain ⟨x2,rfl,b2⟩ := g 2 (by omega) c2 rfl
 obtain ⟨x3,rfl,b3⟩ := g 3 (by omega) c3 rfl
 obtain ⟨x4,rfl,b4⟩ := g 4 (by omega) c4 rfl
 exact ⟨⟨x0,x1,x2,x3,x4⟩,⟨fun x hx => by
  simp only [List.mem_cons,List.not_mem_nil,or_false] at hx
  rcases hx with rfl | rfl | rfl | rfl | rfl <;> assumption⟩,rfl⟩

theorem b25_of {P : Program} {t e e' : TypeId} (ht : P.underlying t = some (.array 5 e)) (he : P.underlying e = some (.array 5 e')) (he' : P.underlying e' = some (.int .u8)) (hc : P.cellsOf t = 25) (hce : P.cellsOf e = 5) (hce' : P.cellsOf e' = 1) {fuel : Nat} {cs : List Value} {x : DataW H × List MemPlace}
 (h : DataW.trod enc P w base spare held fuel t cs = some x) : ∃ r0 r1 r2 r3 r4 : B5,r0.Ok ∧ r1.Ok ∧ r2.Ok ∧ r3.Ok ∧ r4.Ok ∧ cs = r0.cells ++ (r1.cells ++ (r2.cells ++ (r3.cells ++ r4.cells))) := by
 obtain ⟨xs,m,_,_,hl,hlen,hf⟩ := DataW.trod_array ht h
 have g : ∀ i,i < 5 → ∃ f : B5,f.Ok ∧ (cs.drop (i * 5)).take 5 = f.cells := fun i hi => by
  have h1 := hf i hi
  rw [hce,List.getElem?_eq_getElem (by omega)] at h1
  exact b5_of he he' hce hce' h1
 obtain ⟨r0,o0,e0⟩ := g 0 (by omega)
 obtain ⟨r1,o1,e1⟩ := g 1 (by omega)
 obtain ⟨r2,o2,e2⟩ := g 2 (by omega)
 obtain ⟨r3,o3,e3⟩ := g 3 (by omega)
 obtain ⟨r4,o4,e4⟩ := g 4 (by omega)
 refine ⟨r0,r1,r2,r3,r4,o0,o1,o2,o3,o4,?_⟩
 rw [← e0,← e1,← e2,← e3,← e4]
 exact cut5 (hl.trans hc)

theorem gr_of {fuel : Nat} {cs : List Value} {x : DataW H × List MemPlace} (h : DataW.trod enc Tryd.prog w base spare held fuel 27 cs = some x) : ∃ g : Gr,g.Ok ∧ cs = g.cells := by
 obtain ⟨xs,n,_,_,hl,hlen,hf⟩ := DataW.trod_struct Tryd.underlying27 h
 have hC : Tryd.prog.cellsOf 27 = 27 := by kernel_rfl
 have c1 : Tryd.prog.cellsOf 5 = 1 := by kernel_rfl
 have c25 : Tryd.prog.cellsOf 25 = 25 := by kernel_rfl
 rw [hC] at hl
 have e3 : xs.length = 3 := hlen
 have h0 : DataW.trod enc Tryd.prog w base spare held n 5 ((cs.drop 0).take (Tryd.prog.cellsOf 5)) = some xs[0] := by
  have := hf 0 _ rfl; rw [List.getElem?_eq_getElem (by omega)] at this; exact this
 rw [c1] at h0
 have h1 : DataW.trod enc Tryd.prog w base spare held n 5 ((cs.drop 1).take (Tryd.prog.cellsOf 5)) = some xs[1] := by
  have := hf 1 _ rfl; rw [List.getElem?_eq_getElem (by omega)] at this; exact this
 rw [c1] at h1
 have h2 : DataW.trod enc Tryd.prog w base spare held n 25 ((cs.drop 2).take (Tryd.prog.cellsOf 25)) = some xs[2] := by
  have := hf 2 _ rfl; rw [List.getElem?_eq_getElem (by omega)] at this; exact this
 rw [c25] at h2
 obtain ⟨s,hs,_,ws⟩ := DataW.trod_int Tryd.underlying5 h0
 obtain ⟨m,hm,_,wm⟩ := DataW.trod_int Tryd.underlying5 h1
 obtain ⟨r0,r1,r2,r3,r4,o0,o1,o2,o3,o4,hr⟩ := b25_of Tryd.underlying25 Tryd.underlying24 Tryd.underlying5 (by kernel_rfl) (by kernel_rfl) (by kernel_rfl) h2
 refine ⟨⟨s,m,r0,r1,r2,r3,r4⟩,⟨u8_bounds ws,u8_bounds wm,o0,o1,o2,o3,o4⟩,?_⟩
 have a0 : cs.drop 0 = (cs.drop 0).take 1 ++ cs.drop 1 := by have := List.take_append_drop 1 (cs.drop 0); rw [List.drop_drop] at this; exact this.symm
 have a1 : cs.drop 1 = (cs.drop 1).take 1 ++ cs.drop 2 := by have := List.take_append_drop 1 (cs.drop 1); rw [List.drop_drop] at this; exact this.symm
 have a2 : (cs.drop 2).take 25 = cs.drop 2 := List.take_of_length_le (by simp [hl])
 rw [hr] at a2
 rw [← a2,hm] at a1
 rw [a1,hs] at a0
 rw [← List.drop_zero (l := cs),a0]
 rfl
theorem arr2_of {P : Program} {t e : TypeId} {k : Nat} (ht : P.underlying t = some (.array 2 e)) (hc : P.cellsOf t = k + k) (hce : P.cellsOf e = k) {fuel : Nat} {cs : List Value} {x : DataW H × List MemPlace}
 (h : DataW.trod enc P w base spare held fuel t cs = some x) : ∃ (d0 d1 : List Value) (y0 y1 : DataW H × List MemPlace) (m : Nat),cs = d0 ++ d1 ∧ DataW.trod enc P w base spare held m e d0 = some y0 ∧ DataW.trod enc P w base spare held m e d1 = some y1 := by
 obtain ⟨xs,m,_,_,hl,hlen,hf⟩ := DataW.trod_array ht h
 rw [hc] at hl
 have h0 := hf 0 (by decide)
 have h1 := hf 1 (by decide)
 rw [hce,List.getElem?_eq_getElem (by omega)] at h0 h1
 rw [Nat.zero_mul,List.drop_zero] at h0
 rw [Nat.one_mul,List.take_of_length_le (by simp; omega)] at h1
 exact ⟨cs.take k,cs.drop k,_,_,m,(List.take_append_drop k cs).symm,h0,h1⟩
theorem two_in {v : Value} {d : DataW H} {p : List MemPlace} {r : Reach} {b0 : Nat} (hv : Value.okWide Tryd.prog w r b0 30 v) (h : DataW.Trod enc Tryd.prog w base spare held 30 v d p) :
 ∃ (s0 s1 : Int) (g0 g1 : Gr),v = .agg (twoCells s0 s1 g0 g1).toArray ∧ (0 ≤ s0 ∧ s0 < 256) ∧ (0 ≤ s1 ∧ s1 < 256) ∧ g0.Ok ∧ g1.Ok := by
 obtain ⟨⟨cs⟩,rfl,hsz⟩ := okWide_struct Tryd.underlying30 hv
 obtain ⟨fuel,hf0⟩ := h
 have hf : DataW.trod enc Tryd.prog w base spare held fuel 30 cs = some (d,p) := by simpa [Value.cells] using hf0
 obtain ⟨c0,c1,y0,y1,n0,n1,rfl,h0,h1⟩ := st2_of Tryd.underlying30 (by kernel_rfl) hf
 obtain ⟨d0,d1,_,_,m,rfl,t0,t1⟩ := arr2_of (k := 1) Tryd.underlying23 (by kernel_rfl) (by kernel_rfl) h0
 obtain ⟨e0,e1,_,_,m',rfl,u0,u1⟩ := arr2_of (k := 27) Tryd.underlying28 (by kernel_rfl) (by kernel_rfl) h1
 obtain ⟨s0,rfl,_,w0⟩ := DataW.trod_int Tryd.underlying22 t0
 obtain ⟨s1,rfl,_,w1⟩ := DataW.trod_int Tryd.underlying22 t1
 obtain ⟨g0,o0,rfl⟩ := gr_of u0
 obtain ⟨g1,o1,rfl⟩ := gr_of u1
 exact ⟨s0,s1,g0,g1,rfl,u8_bounds w0,u8_bounds w1,o0,o1⟩
end
end
end Go.Proofs.YtkifgffhoenaoaaDoor
