/-
  reach.graph.backward with the least numbers of events.
-/
import Derived.Test.YtimdepdbcdbikaaGreatBas01
import Derived.Test.YtimdepdbcdbikaaGreatBas07
import Derived.Test.YtimdepdbcdbikaaGreatBas06
set_option linter.unusedSimpArgs false
set_option linter.unusedVariables false
namespace Go.Proofs.YtimdepdbcdbikaaGreat
open Go.RowKit
set_option maxRecDepth 100000
def GivesBD (a : Au) (tg : List Int) (w : World) (e : Ending) (w' : World) : Prop := ∃ g d,e = .returned (.slice (some ⟨g,0,none⟩) a.n.toNat a.n.toNat) ∧ Hid (Sep w.heap.size w [eBlk g 3 (mkI a.n.toNat d)] w') ∧ Hid (DistOk a a.n.toNat tg d)
set_option maxHeartbeats 8000000 in
theorem backwardD_c (a : Au) (p : AuP) (g0 : Nat) (AT : Option Addr) (cT : Nat) (tg : List Int) (w : World) (hr : a.Right) (hA : Au.At w a p) (hT : IntsAt w AT tg) (hnd : tg.Nodup) (hrg : ∀ v,v ∈ tg → 0 ≤ v ∧ v < a.n) :
 Calls Tryz.prog 103 #[.agg (grCells a p g0).toArray,.slice AT tg.length cT] w (GivesBD a tg w) := by
 have h0 := hr.n0
 have hn := hr.n1
 have HS : Hid (∀ (i : Nat) x,a.ed[i]? = some x → (0 ≤ x.src ∧ x.src < a.n) ∧ 0 ≤ x.dst ∧ x.dst < a.n) := fun i x hx => ⟨⟨(hr.edge hx).1,(hr.edge hx).2.1⟩,(hr.edge hx).2.2.1,(hr.edge hx).2.2.2.1⟩
 have HE := Lib.hid hA.ed
 have hle := ed_len hr
 have HR := Lib.hid hr
 obtain ⟨al,n,mr,ed⟩ := a
 obtain ⟨A1,c1,A2,c2,A3,c3⟩ := p
 obtain ⟨N,rfl⟩ := Int.eq_ofNat_of_zero_le h0
 dsimp only [grCells] at HS hn HE hle hrg ⊢
 have B0 : Hid (BwdD ⟨al,N,mr,ed⟩ N tg tg (fun s => if (s : Int) ∈ tg then (0 : Int) else -1) 0 0) := BwdD.start hnd hrg
 have htl : tg.length ≤ N := B0.out.b.len
 have HRG := Lib.hid hrg
 have HT := Lib.hid hT
 have HNN : Hid (∀ v,v ∈ tg → 0 ≤ v) := fun v hv => (hrg v hv).1
 have hmk := make_run (P := Tryz.prog) 47 31 (.slice none 0 0) 24 Tryz.underlying47 intsInfo rfl N (by omega) (by omega)
 have hmk2 := make_run (P := Tryz.prog) 31 3 (.int .i64 0) 8 Tryz.underlying31 intInfo rfl N (by omega) (by omega)
 clear hr hA h0 hT hnd hrg
 rw [show ((N : Int).toNat + 1) = N + 1 from rfl]
 go_enter Tryz.func103,Tryz.ntmps103
 go_upto_region 1 with fail
 refine wp_world (fun W => Sep w.heap.size w [eBlk w.heap.size 140 [.slice A1 al.length c1,.int .i64 (N : Int),.slice A2 mr.length c2,.slice A3 ed.length c3,.slice (some ⟨g0,0,none⟩) (N + 1) (N + 1)]] W) ((Sep.here w).alloc' _ [_,_,_,_,_] rfl rfl) fun W S => ?_
 have S0 := Lib.hid S
 clear S
 have b1 := qkC S0.out 0 rfl 1 rfl
 obtain ⟨gi,hgi⟩ : ∃ gi,gi = W.heap.size := ⟨_,rfl⟩
 go_upto_region 2 with fail
 rw [← hgi]
 refine wp_world (fun W2 => Sep w.heap.size w ([eBlk gi 31 ((List.range N).map fun _ => .slice none 0 0),eBlk w.heap.size 140 [.slice A1 al.length c1,.int .i64 (N : Int),.slice A2 mr.length c2,.slice A3 ed.length c3,.slice (some ⟨g0,0,none⟩) (N + 1) (N + 1)]] ++ rowsE N (fun s => predsOf (ed.take 0) s) (fun _ => .slice none 0 0)) W2) ?_ fun W2 S => ?_
 · have h := (S0.out.alloc' 31 (List.replicate N (.slice none 0 0)) (o := Obj.cells (Array.replicate N (.slice none 0 0)) 31) (by simp) hgi).rows N
   rw [rowsV_rep] at h
   exact h
 have S1 := Lib.hid S
 clear S S0 b1 hgi hmk
 have b3 := qkC S1.out 1 rfl 3 rfl
 go_wp2_with fail
 go_loopw [24] (fun i wr => ∃ (k : Nat) (vs : Nat → Value),i = .int .i64 k ∧ k ≤ ed.length ∧ Hid (Sep w.heap.size w ([eBlk gi 31 ((List.range N).map vs),eBlk w.heap.size 140 [.slice A1 al.length c1,.int .i64 (N : Int),.slice A2 mr.length c2,.slice A3 ed.length c3,.slice (some ⟨g0,0,none⟩) (N + 1) (N + 1)]] ++ rowsE N (fun s => predsOf (ed.take k) s) vs) wr)) (fun i _ => ed.length - (intOf i).toNat)
 case atStart => exact ⟨0,fun _ => .slice none 0 0,rfl,Nat.zero_le _,S1.out⟩
 case round =>
  clear S1 b3
  obtain ⟨k,vs,rfl,hk,S⟩ := hrel
  by_cases hlt : k < ed.length
  · obtain ⟨b,off,x,hAe,hb,hx,y0,y1,y2⟩ := EdsAt.at (HE.out.below EdE.stays S.out.below) hlt
    subst hAe
    obtain ⟨s,hs⟩ := Int.eq_ofNat_of_zero_le (HS.out k x hx).1.1
    obtain ⟨d,hd⟩ := Int.eq_ofNat_of_zero_le (HS.out k x hx).2.1
    have hdN : d < N := by have := (HS.out k x hx).2.2; omega
    obtain ⟨ye,hye⟩ : ∃ z,z = x.ev := ⟨_,rfl⟩
    have HLS : Hid (upd (fun s => predsOf (ed.take k) s) d (predsOf (ed.take k) d ++ [(s : Int)]) = fun s => predsOf (ed.take (k + 1)) s) := by
     funext t
     rw [List.take_add_one,hx,Option.toList_some,predsOf_snoc,hd,hs]
     by_cases e : t = d
     · subst e; rw [upd_same,if_pos rfl]
     · rw [upd_other e,if_neg (by omega)]
    have hpl : (predsOf (ed.take k) d).length ≤ 1048576 := by
     have h1 := predsOf_len (ed.take k) d
     rw [List.length_take] at h1
     omega
    rw [hs] at y0
    rw [← hye] at y1
    rw [hd] at y2
    clear hx hs hd hye hb
    go_upto_region 5 with fail
    refine wp_world (fun W => ∃ bx,bx = wr.heap.size ∧ Sep w.heap.size w ([eBlk bx 76 [.int .i64 (s : Int),.int .i64 ye,.int .i64 (d : Int)],eBlk gi 31 ((List.range N).map vs),eBlk w.heap.size 140 [.slice A1 al.length c1,.int .i64 (N : Int),.slice A2 mr.length c2,.slice (some ⟨b,off,none⟩) ed.length c3,.slice (some ⟨g0,0,none⟩) (N + 1) (N + 1)]] ++ rowsE N (fun s => predsOf (ed.take k) s) vs) W) ⟨_,rfl,S.out.alloc' _ [_,_,_] rfl rfl⟩ fun W S' => ?_
    obtain ⟨bx,hbx,S'⟩ := S'
    rw [← hbx]
    have S3 := Lib.hid S'
    clear S' hbx S y0 y1 y2
    obtain ⟨AR,cR,hvd⟩ := S3.out.form (3 + d) (rowsE_get (A := [_,_,_]) hdN)
    have HVD := Lib.hid hvd
    clear hvd
    have S1 := Lib.hid S3.out.drew
    refine wp_region_held_drew (S := (fun V => Sep w.heap.size w [eBlk bx 76 [.int .i64 (s : Int),.int .i64 ye,.int .i64 (d : Int)]] V)) (by kernel_rfl) ?_ (fun hHeld => ?_)
    · exact S1.out.left.pick [0] (by decide)
    generalize hwz : W.drew = w1 at *
    clear hwz
    refine tkP 0 rfl hHeld ?_
    try simp only [sx]
    refine tkP 1 rfl hHeld ?_
    try simp only [sx]
    refine tkH 2 rfl (v := ?_) (by kernel_rfl) ?_ hHeld ?_
    rotate_left
    · intro V hSw
      have b0 := qkC hSw 0 rfl 0 rfl
      have b2 := qkC hSw 0 rfl 2 rfl
      clear hSw
      first | (go_simp; done) | (go_simp; with_reducible rfl)
    try simp only [sx]
    refine tkP 3 rfl hHeld ?_
    try simp only [sx]
    refine tkP 4 rfl hHeld ?_
    try simp only [sx]
    refine tkH 5 rfl (v := ?_) (by kernel_rfl) ?_ hHeld ?_
    rotate_left
    · intro V hSw
      have b0 := qkC hSw 0 rfl 0 rfl
      have b2 := qkC hSw 0 rfl 2 rfl
      clear hSw
      first | (go_simp; done) | (go_simp; with_reducible rfl)
    try simp only [sx]
    refine tkP 6 rfl hHeld ?_
    try simp only [sx]
    refine tkP 8 rfl hHeld ?_
    try simp only [sx]
    refine tkH 9 rfl (v := ?_) (by kernel_rfl) ?_ hHeld ?_
    rotate_left
    · intro V hSw
      have b0 := qkC hSw 0 rfl 0 rfl
      have b2 := qkC hSw 0 rfl 2 rfl
      clear hSw
      first | (go_simp; done) | (go_simp; with_reducible rfl)
    try simp only [sx]
    refine wpAnyH_ready (rs := [7,10]) (by kernel_rfl) (by simp) ?_
    refine AllReadyH.cons rfl (fun K hK => ?_) (AllReadyH.cons rfl (fun K hK => ?_) AllReadyH.nil)
    · skip
      have il := (BlkAt.cell (S1.out.get 1 rfl) d).trans (rowsV_get hdN)
      rw [HVD.out] at il
      go_simp
      refine hK.out _ _ ?_ (fun hHeld => ?_)
      · exact S1.out.left.pick [0] (by decide)
      clear hK K
      try simp only [sx]
      refine rdH 10 rfl fun K hK => ?_
      go_simp
      obtain ⟨nnw,hnnw⟩ : ∃ n,n = w1.heap.size := ⟨_,rfl⟩
      obtain ⟨w2,hw2⟩ : ∃ v,v = w1.alloc (.cells #[(.int .i64 (s : Int))] 3) := ⟨_,rfl⟩
      rw [← hw2,← hnnw]
      have S2 : Hid (Sep w.heap.size w ([eBlk nnw 3 [(.int .i64 (s : Int))],eBlk bx 76 [.int .i64 (s : Int),.int .i64 ye,.int .i64 (d : Int)],eBlk gi 31 ((List.range N).map vs),eBlk w.heap.size 140 [.slice A1 al.length c1,.int .i64 (N : Int),.slice A2 mr.length c2,.slice (some ⟨b,off,none⟩) ed.length c3,.slice (some ⟨g0,0,none⟩) (N + 1) (N + 1)]] ++ rowsE N (fun s => predsOf (ed.take k) s) vs) w2) := by rw [hw2,hnnw]; exact S1.out.alloc 3 [(.int .i64 (s : Int))]
      skip
      clear hw2 hnnw
      refine hK.out _ _ ?_ (fun hHeld => ?_)
      · exact S2.out.left.pick [1] (by decide)
      clear hK K
      try simp only [sx]
      refine rdH 11 rfl fun K hK => ?_
      refine step_pushS rfl (.tmp 35) (.tmp 38) 31 rfl S2.out (4 + d) (rowsE_get (A := [_,_,_,_]) hdN) Tryz.underlying31 _ 8 intInfo rfl (by decide) HVD.out.symm (s : Int) nnw rfl rfl (fun j u hj => (BlkAt.cell (S2.out.get 0 rfl) j).trans hj) (encI_one _) hpl (by decide) ?_
      intro AR2 cR2 w3 S3' _
      have S3 : Hid (Sep w.heap.size w ([eBlk nnw 3 [(.int .i64 (s : Int))],eBlk bx 76 [.int .i64 (s : Int),.int .i64 ye,.int .i64 (d : Int)],eBlk gi 31 ((List.range N).map vs),eBlk w.heap.size 140 [.slice A1 al.length c1,.int .i64 (N : Int),.slice A2 mr.length c2,.slice (some ⟨b,off,none⟩) ed.length c3,.slice (some ⟨g0,0,none⟩) (N + 1) (N + 1)]] ++ rowsE N (upd (fun s => predsOf (ed.take k) s) d (predsOf (ed.take k) d ++ [(s : Int)])) (upd vs d (.slice AR2 ((predsOf (ed.take k) d).length + 1) cR2))) w3) := (congrArg (fun es => Sep w.heap.size w es w3) (rowsE_set (A := [_,_,_,_]) hdN _ _)).mp S3'
      clear S3'
      refine hK.out _ _ ?_ (fun hHeld => ?_)
      · exact S3.out.left.pick [1] (by decide)
      clear hK K
      try simp only [sx]
      refine tkP 12 rfl hHeld ?_
      try simp only [sx]
      refine rdH 13 rfl fun K hK => ?_
      have sc := (BlkAt.cell (S3.out.get 2 rfl) d).trans (rowsV_get hdN)
      have sf := BlkAt.free (S3.out.get 2 rfl) d
      rw [HVD.out] at sc
      go_simp
      obtain ⟨w4,hw4⟩ : ∃ v,v = w3.setCell ⟨gi,d,none⟩ (.slice AR2 ((predsOf (ed.take k) d).length + 1) cR2) := ⟨_,rfl⟩
      rw [← hw4]
      have S4 : Hid (Sep w.heap.size w ([eBlk nnw 3 [(.int .i64 (s : Int))],eBlk bx 76 [.int .i64 (s : Int),.int .i64 ye,.int .i64 (d : Int)],eBlk gi 31 ((List.range N).map (upd vs d (.slice AR2 ((predsOf (ed.take k) d).length + 1) cR2))),eBlk w.heap.size 140 [.slice A1 al.length c1,.int .i64 (N : Int),.slice A2 mr.length c2,.slice (some ⟨b,off,none⟩) ed.length c3,.slice (some ⟨g0,0,none⟩) (N + 1) (N + 1)]] ++ rowsE N (upd (fun s => predsOf (ed.take k) s) d (predsOf (ed.take k) d ++ [(s : Int)])) (upd vs d (.slice AR2 ((predsOf (ed.take k) d).length + 1) cR2))) w4) := by
       have h := S3.out.set 2 rfl d (.slice AR2 ((predsOf (ed.take k) d).length + 1) cR2)
       rw [rowsV_set hdN] at h
       rw [hw4]
       exact h
      clear hw4 sc sf
      refine hK.out _ _ ?_ (fun hHeld => ?_)
      · exact S4.out.left.pick [1] (by decide)
      clear hK K
      try simp only [sx]
      refine wpAnyH_done (by kernel_rfl) ?_ _
      go_wp2_with fail
      go_roundw
      case rel => exact ⟨k + 1,upd vs d (.slice AR2 ((predsOf (ed.take k) d).length + 1) cR2),by go_num,by omega,by have h := S4.out.drop1.drop1; rw [HLS.out] at h; exact h⟩
      case measure => simp [intOf]; omega
    · skip
      go_simp
      obtain ⟨nnw,hnnw⟩ : ∃ n,n = w1.heap.size := ⟨_,rfl⟩
      obtain ⟨w5,hw5⟩ : ∃ v,v = w1.alloc (.cells #[(.int .i64 (s : Int))] 3) := ⟨_,rfl⟩
      rw [← hw5,← hnnw]
      have S5 : Hid (Sep w.heap.size w ([eBlk nnw 3 [(.int .i64 (s : Int))],eBlk bx 76 [.int .i64 (s : Int),.int .i64 ye,.int .i64 (d : Int)],eBlk gi 31 ((List.range N).map vs),eBlk w.heap.size 140 [.slice A1 al.length c1,.int .i64 (N : Int),.slice A2 mr.length c2,.slice (some ⟨b,off,none⟩) ed.length c3,.slice (some ⟨g0,0,none⟩) (N + 1) (N + 1)]] ++ rowsE N (fun s => predsOf (ed.take k) s) vs) w5) := by rw [hw5,hnnw]; exact S1.out.alloc 3 [(.int .i64 (s : Int))]
      skip
      clear hw5 hnnw
      refine hK.out _ _ ?_ (fun hHeld => ?_)
      · exact S5.out.left.pick [1] (by decide)
      clear hK K
      try simp only [sx]
      refine rdH 7 rfl fun K hK => ?_
      have il := (BlkAt.cell (S5.out.get 2 rfl) d).trans (rowsV_get hdN)
      rw [HVD.out] at il
      go_simp
      refine hK.out _ _ ?_ (fun hHeld => ?_)
      · exact S5.out.left.pick [1] (by decide)
      clear hK K
      try simp only [sx]
      refine rdH 11 rfl fun K hK => ?_
      refine step_pushS rfl (.tmp 35) (.tmp 38) 31 rfl S5.out (4 + d) (rowsE_get (A := [_,_,_,_]) hdN) Tryz.underlying31 _ 8 intInfo rfl (by decide) HVD.out.symm (s : Int) nnw rfl rfl (fun j u hj => (BlkAt.cell (S5.out.get 0 rfl) j).trans hj) (encI_one _) hpl (by decide) ?_
      intro AR2 cR2 w6 S6' _
      have S6 : Hid (Sep w.heap.size w ([eBlk nnw 3 [(.int .i64 (s : Int))],eBlk bx 76 [.int .i64 (s : Int),.int .i64 ye,.int .i64 (d : Int)],eBlk gi 31 ((List.range N).map vs),eBlk w.heap.size 140 [.slice A1 al.length c1,.int .i64 (N : Int),.slice A2 mr.length c2,.slice (some ⟨b,off,none⟩) ed.length c3,.slice (some ⟨g0,0,none⟩) (N + 1) (N + 1)]] ++ rowsE N (upd (fun s => predsOf (ed.take k) s) d (predsOf (ed.take k) d ++ [(s : Int)])) (upd vs d (.slice AR2 ((predsOf (ed.take k) d).length + 1) cR2))) w6) := (congrArg (fun es => Sep w.heap.size w es w6) (rowsE_set (A := [_,_,_,_]) hdN _ _)).mp S6'
      clear S6'
      refine hK.out _ _ ?_ (fun hHeld => ?_)
      · exact S6.out.left.pick [1] (by decide)
      clear hK K
      try simp only [sx]
      refine tkP 12 rfl hHeld ?_
      try simp only [sx]
      refine rdH 13 rfl fun K hK => ?_
      have sc := (BlkAt.cell (S6.out.get 2 rfl) d).trans (rowsV_get hdN)
      have sf := BlkAt.free (S6.out.get 2 rfl) d
      rw [HVD.out] at sc
      go_simp
      obtain ⟨w7,hw7⟩ : ∃ v,v = w6.setCell ⟨gi,d,none⟩ (.slice AR2 ((predsOf (ed.take k) d).length + 1) cR2) := ⟨_,rfl⟩
      rw [← hw7]
      have S7 : Hid (Sep w.heap.size w ([eBlk nnw 3 [(.int .i64 (s : Int))],eBlk bx 76 [.int .i64 (s : Int),.int .i64 ye,.int .i64 (d : Int)],eBlk gi 31 ((List.range N).map (upd vs d (.slice AR2 ((predsOf (ed.take k) d).length + 1) cR2))),eBlk w.heap.size 140 [.slice A1 al.length c1,.int .i64 (N : Int),.slice A2 mr.length c2,.slice (some ⟨b,off,none⟩) ed.length c3,.slice (some ⟨g0,0,none⟩) (N + 1) (N + 1)]] ++ rowsE N (upd (fun s => predsOf (ed.take k) s) d (predsOf (ed.take k) d ++ [(s : Int)])) (upd vs d (.slice AR2 ((predsOf (ed.take k) d).length + 1) cR2))) w7) := by
       have h := S6.out.set 2 rfl d (.slice AR2 ((predsOf (ed.take k) d).length + 1) cR2)
       rw [rowsV_set hdN] at h
       rw [hw7]
       exact h
      clear hw7 sc sf
      refine hK.out _ _ ?_ (fun hHeld => ?_)
      · exact S7.out.left.pick [1] (by decide)
      clear hK K
      try simp only [sx]
      refine wpAnyH_done (by kernel_rfl) ?_ _
      go_wp2_with fail
      go_roundw
      case rel => exact ⟨k + 1,upd vs d (.slice AR2 ((predsOf (ed.take k) d).length + 1) cR2),by go_num,by omega,by have h := S7.out.drop1.drop1; rw [HLS.out] at h; exact h⟩
      case measure => simp [intOf]; omega
  · obtain rfl : k = ed.length := by omega
    have S2 : Hid (Sep w.heap.size w ([eBlk gi 31 ((List.range N).map vs),eBlk w.heap.size 140 [.slice A1 al.length c1,.int .i64 (N : Int),.slice A2 mr.length c2,.slice A3 ed.length c3,.slice (some ⟨g0,0,none⟩) (N + 1) (N + 1)]] ++ rowsE N (fun s => predsOf ed s) vs) wr) := by
     have h := S.out
     rw [List.take_length] at h
     exact h
    clear S
    have b1 := qkC S2.out 1 rfl 1 rfl
    obtain ⟨go,hgo⟩ : ∃ g,g = wr.heap.size := ⟨_,rfl⟩
    go_upto_region 8 with fail
    rw [← hgo]
    refine wp_world (fun W2 => Sep w.heap.size w ([eBlk go 3 (mkI N (fun s => if s < 0 then (-1 : Int) else 0)),eBlk gi 31 ((List.range N).map vs),eBlk w.heap.size 140 [.slice A1 al.length c1,.int .i64 (N : Int),.slice A2 mr.length c2,.slice A3 ed.length c3,.slice (some ⟨g0,0,none⟩) (N + 1) (N + 1)]] ++ rowsE N (fun s => predsOf ed s) vs) W2) ?_ fun W2 S => ?_
    · have h := S2.out.alloc' 3 (List.replicate N (.int .i64 0)) (o := Obj.cells (Array.replicate N (.int .i64 0)) 3) (by simp) hgo
      rw [mkI_rep] at h
      exact h
    have S3 := Lib.hid S
    clear S S2 b1 hgo hmk2
    go_wp2_with fail
    go_loopw [48] (fun i wr => ∃ k : Nat,i = .int .i64 k ∧ k ≤ N ∧ Hid (Sep w.heap.size w ([eBlk go 3 (mkI N (fun s => if s < k then (-1 : Int) else 0)),eBlk gi 31 ((List.range N).map vs),eBlk w.heap.size 140 [.slice A1 al.length c1,.int .i64 (N : Int),.slice A2 mr.length c2,.slice A3 ed.length c3,.slice (some ⟨g0,0,none⟩) (N + 1) (N + 1)]] ++ rowsE N (fun s => predsOf ed s) vs) wr)) (fun i _ => N - (intOf i).toNat)
    case atStart => exact ⟨0,rfl,Nat.zero_le _,S3.out⟩
    case round =>
     clear S3
     obtain ⟨k,rfl,hk,S⟩ := hrel
     by_cases hlt : k < N
     · have oc := (BlkAt.cell (S.out.get 0 rfl) k).trans (mkI_get hlt)
       have of := BlkAt.free (S.out.get 0 rfl) k
       have S4 : Hid (Sep w.heap.size w ([eBlk go 3 (mkI N (fun s => if s < k + 1 then (-1 : Int) else 0)),eBlk gi 31 ((List.range N).map vs),eBlk w.heap.size 140 [.slice A1 al.length c1,.int .i64 (N : Int),.slice A2 mr.length c2,.slice A3 ed.length c3,.slice (some ⟨g0,0,none⟩) (N + 1) (N + 1)]] ++ rowsE N (fun s => predsOf ed s) vs) (wr.setCell ⟨go,k,none⟩ (.int .i64 (-1)))) := by
        have h := S.out.set 0 rfl k (.int .i64 (-1))
        rw [mkI_set] at h
        have e : mkI N (fun t => if t = k then (-1 : Int) else if t < k then (-1 : Int) else 0) = mkI N fun s => if s < k + 1 then (-1 : Int) else 0 := mkI_congr fun t _ => by
         by_cases e1 : t = k
         · rw [if_pos e1,if_pos (by omega)]
         · rw [if_neg e1]
           by_cases e2 : t < k
           · rw [if_pos e2,if_pos (by omega)]
           · rw [if_neg e2,if_neg (by omega)]
        rw [e] at h
        exact h
       clear S
       go_wp2_with fail
       go_roundw
       case rel => exact ⟨k + 1,by go_num,by omega,S4.out⟩
       case measure => simp [intOf]; omega
     · obtain rfl : k = N := by omega
       have S4 : Hid (Sep w.heap.size w ([eBlk go 3 (mkI k (fun s => if (s : Int) ∈ tg.take 0 then (0 : Int) else -1)),eBlk gi 31 ((List.range k).map vs),eBlk w.heap.size 140 [.slice A1 al.length c1,.int .i64 (k : Int),.slice A2 mr.length c2,.slice A3 ed.length c3,.slice (some ⟨g0,0,none⟩) (k + 1) (k + 1)]] ++ rowsE k (fun s => predsOf ed s) vs) wr) := by
        have h := S.out
        have e : mkI k (fun s => if s < k then (-1 : Int) else 0) = mkI k (fun s => if (s : Int) ∈ tg.take 0 then (0 : Int) else -1) := mkI_congr fun t ht => by rw [if_pos ht,if_neg (by simp)]
        rw [e] at h
        exact h
       clear S
       go_wp2_with fail
       refine (cloneO_c AT cT tg wr (HT.out.below IntE.stays S4.out.below) (by omega)).mono ?_
       rintro e w2 ⟨vq,rfl,O,hb⟩
       have S5' := (S4.out.newI O.out hb).asQ 0 rfl
       obtain ⟨AQ,cQ,hvq,hcq⟩ := S5'.formQ 0 rfl
       subst hvq
       have S5 : Hid (Sep w.heap.size w ([eQ tg (.slice AQ tg.length cQ),eBlk go 3 (mkI k (fun s => if (s : Int) ∈ tg.take 0 then (0 : Int) else -1)),eBlk gi 31 ((List.range k).map vs),eBlk w.heap.size 140 [.slice A1 al.length c1,.int .i64 (k : Int),.slice A2 mr.length c2,.slice A3 ed.length c3,.slice (some ⟨g0,0,none⟩) (k + 1) (k + 1)]] ++ rowsE k (fun s => predsOf ed s) vs) w2) := S5'
       clear S5' S4 O hb
       go_wp2_with fail
       go_loopw [59] (fun i wr => ∃ k' : Nat,i = .int .i64 k' ∧ k' ≤ tg.length ∧ Hid (Sep w.heap.size w ([eQ tg (.slice AQ tg.length cQ),eBlk go 3 (mkI k (fun s => if (s : Int) ∈ tg.take k' then (0 : Int) else -1)),eBlk gi 31 ((List.range k).map vs),eBlk w.heap.size 140 [.slice A1 al.length c1,.int .i64 (k : Int),.slice A2 mr.length c2,.slice A3 ed.length c3,.slice (some ⟨g0,0,none⟩) (k + 1) (k + 1)]] ++ rowsE k (fun s => predsOf ed s) vs) wr)) (fun i _ => tg.length - (intOf i).toNat)
       case atStart => exact ⟨0,rfl,Nat.zero_le _,S5.out⟩
       case round =>
        clear S5
        obtain ⟨q,rfl,hq,S⟩ := hrel
        by_cases hlt2 : q < tg.length
        · obtain ⟨b,off,x,hAe,hb,hx,y0⟩ := IntsAt.at (HT.out.below IntE.stays S.out.below) hlt2
          subst hAe
          obtain ⟨s,hs⟩ := Int.eq_ofNat_of_zero_le (HRG.out x (List.mem_of_getElem? hx)).1
          have hsN : s < k := by have := (HRG.out x (List.mem_of_getElem? hx)).2; omega
          have oc := (BlkAt.cell (S.out.get 1 rfl) s).trans (mkI_get hsN)
          have of := BlkAt.free (S.out.get 1 rfl) s
          have S6 : Hid (Sep w.heap.size w ([eQ tg (.slice AQ tg.length cQ),eBlk go 3 (mkI k (fun t => if (t : Int) ∈ tg.take (q + 1) then (0 : Int) else -1)),eBlk gi 31 ((List.range k).map vs),eBlk w.heap.size 140 [.slice A1 al.length c1,.int .i64 (k : Int),.slice A2 mr.length c2,.slice A3 ed.length c3,.slice (some ⟨g0,0,none⟩) (k + 1) (k + 1)]] ++ rowsE k (fun s => predsOf ed s) vs) (wr.setCell ⟨go,s,none⟩ (.int .i64 0))) := by
           have h := S.out.set 1 rfl s (.int .i64 0)
           rw [mkI_set] at h
           have e : mkI k (fun t => if t = s then (0 : Int) else if (t : Int) ∈ tg.take q then (0 : Int) else -1) = mkI k fun t => if (t : Int) ∈ tg.take (q + 1) then (0 : Int) else -1 := mkI_congr fun t _ => by
            rw [List.take_add_one,hx,Option.toList_some,hs]
            by_cases e1 : t = s
            · rw [if_pos e1,if_pos (by simp [e1])]
            · rw [if_neg e1]
              by_cases e2 : (t : Int) ∈ tg.take q
              · rw [if_pos e2,if_pos (List.mem_append_left _ e2)]
              · rw [if_neg e2,if_neg (by
                 intro g
                 rcases List.mem_append.1 g with g | g
                 · exact e2 g
                 · have := List.mem_singleton.1 g; omega)]
           rw [e] at h
           exact h
          rw [hs] at y0
          clear S hx hs
          go_wp2_with fail
          go_roundw
          case rel => exact ⟨q + 1,by go_num,by omega,S6.out⟩
          case measure => simp [intOf]; omega
        · obtain rfl : q = tg.length := by omega
          obtain ⟨C,hC⟩ : ∃ C,C = negC k (fun s => if (s : Int) ∈ tg then (0 : Int) else -1) + tg.length := ⟨_,rfl⟩
          have S6 : Hid (Sep w.heap.size w ([eQ (tg.drop 0) (.slice AQ (tg.drop 0).length cQ),eBlk go 3 (mkI k (fun s => if (s : Int) ∈ tg then (0 : Int) else -1)),eBlk gi 31 ((List.range k).map vs),eBlk w.heap.size 140 [.slice A1 al.length c1,.int .i64 (k : Int),.slice A2 mr.length c2,.slice A3 ed.length c3,.slice (some ⟨g0,0,none⟩) (k + 1) (k + 1)]] ++ rowsE k (fun s => predsOf ed s) vs) wr) := by
           have h := S.out
           rw [List.take_length] at h
           exact h
          have HC := Lib.hid hC
          clear S hC
          go_wp2_with fail
          go_loopw [10] (fun v10 wr => ∃ (fs : List Int) (h : Nat) (d : Nat → Int) (AQ' : Option Addr) (cQ' : Nat),v10 = .slice AQ' (fs.drop h).length cQ' ∧ h ≤ fs.length ∧ Hid (BwdD ⟨al,k,mr,ed⟩ k tg fs d h 0) ∧ Hid (negC k d + fs.length = C) ∧ Hid (Sep w.heap.size w ([eQ (fs.drop h) (.slice AQ' (fs.drop h).length cQ'),eBlk go 3 (mkI k d),eBlk gi 31 ((List.range k).map vs),eBlk w.heap.size 140 [.slice A1 al.length c1,.int .i64 (k : Int),.slice A2 mr.length c2,.slice A3 ed.length c3,.slice (some ⟨g0,0,none⟩) (k + 1) (k + 1)]] ++ rowsE k (fun s => predsOf ed s) vs) wr)) (fun v10 wr => 2 * wNeg wr go k + lenOf v10)
          case atStart => exact ⟨tg,0,_,AQ,cQ,rfl,Nat.zero_le _,B0.out,HC.out.symm,S6.out⟩
          case round =>
           clear S6 HC B0
           obtain ⟨fs,h,d,AQ',cQ',rfl,hh,B,HC,S⟩ := hrel
           have hfl : fs.length ≤ k := B.out.b.len
           by_cases hlt3 : h < fs.length
           · obtain ⟨s0,hs0⟩ : ∃ x,fs[h]? = some x := ⟨_,List.getElem?_eq_getElem hlt3⟩
             obtain ⟨s,hs⟩ := Int.eq_ofNat_of_zero_le (B.out.b.rg s0 (List.mem_of_getElem? hs0)).1
             have hsN : s < k := by have := (B.out.b.rg s0 (List.mem_of_getElem? hs0)).2; omega
             rw [hs] at hs0
             have FS := Lib.hid hs0
             have hdrop : fs.drop h = (s : Int) :: fs.drop (h + 1) := by
              rw [List.drop_eq_getElem_cons hlt3]
              have := List.getElem?_eq_getElem hlt3
              rw [FS.out] at this
              rw [← Option.some.inj this]
             have hdl : (fs.drop h).length = fs.length - h := List.length_drop ..
             have HN0 : Hid (2 * wNeg wr go k + (fs.length - h) = 2 * (C - fs.length) + (fs.length - h)) := by
              rw [Hid,wNeg_eq (S.out.get 1 rfl)]; have := HC.out; omega
             have hcap := OwnO.cap (S.out.get 0 rfl)
             rw [hdl] at S ⊢ hcap
             rw [hdrop] at S
             obtain ⟨gq,oq,y,hAe,hbq,hy,cq⟩ := IntsAt.at (l := (s : Int) :: fs.drop (h + 1)) (Sep.intsQ (c := cQ') (by have h' := S.out; rw [show fs.length - h = ((s : Int) :: fs.drop (h + 1)).length by simp; omega] at h'; exact h') 0 rfl) (k := 0) (by simp)
             simp at hy
             subst hy
             subst hAe
             rw [Nat.add_zero] at cq
             obtain ⟨AT2,hAT2,S1'⟩ := S.out.tailQ (enc := encI) (k := 1) (fun _ => rfl) 0 rfl
             have S1 : Hid (Sep w.heap.size w ([eQ (fs.drop (h + 1)) (.slice (some AT2) (fs.drop (h + 1)).length (cQ' - 1)),eBlk go 3 (mkI k d),eBlk gi 31 ((List.range k).map vs),eBlk w.heap.size 140 [.slice A1 al.length c1,.int .i64 (k : Int),.slice A2 mr.length c2,.slice A3 ed.length c3,.slice (some ⟨g0,0,none⟩) (k + 1) (k + 1)]] ++ rowsE k (fun s => predsOf ed s) vs) wr) := S1'
             have hlen1 : (fs.drop (h + 1)).length = fs.length - h - 1 := by rw [List.length_drop]; omega
             have HD1 := Lib.hid hlen1
             have hpos : 0 < fs.length - h := by omega
             clear S1' S hdl hdrop hbq
             go_upto_region 21 with fail
             go_cut [10] (fun v wx => v = .slice (some AT2) (fs.length - h - 1) (cQ' - 1) ∧ wx = wr)
             case first =>
              by_cases h1c : cQ' = 1
              · rw [if_pos h1c] at hAT2
                cases hAT2
                go_wp2_with fail
                go_meet
                exact ⟨by first | rfl | (simp; done) | (simp; omega),rfl⟩
              · rw [if_neg h1c] at hAT2
                cases hAT2
                go_wp2_with fail
                go_meet
                exact ⟨by first | rfl | (simp; done) | (simp; omega),rfl⟩
             case rest =>
              clear cq hAT2 hcap hpos hlen1
              obtain ⟨rfl,rfl⟩ := hcut
              obtain ⟨AR,cR,hvs⟩ := S1.out.form (4 + s) (rowsE_get (A := [_,_,_,_]) hsN)
              have ic := (BlkAt.cell (S1.out.get 2 rfl) s).trans (rowsV_get hsN)
              rw [hvs] at ic
              have HVS := Lib.hid hvs
              clear hvs hs0
              have hri : ∀ (E1 E2 E3 E4 : Ent),([E1,E2,E3,E4] ++ rowsE k (fun s => predsOf ed s) vs)[4 + s]? = some (eInts (predsOf ed s) (.slice AR (predsOf ed s).length cR)) := fun E1 E2 E3 E4 => (rowsE_get (A := [E1,E2,E3,E4]) hsN).trans (by rw [HVS.out])
              have HRI := Lib.hid hri
              have hpl := predsOf_len ed s
              clear hri
              go_wp2_with fail
              go_loopw [10,80] (fun v10 i wr2 => ∃ (q : Nat) (fs' : List Int) (d' : Nat → Int) (rest : List Int) (AQ2 : Option Addr) (cQ2 : Nat),v10 = .slice AQ2 rest.length cQ2 ∧ Hid (rest = fs'.drop (h + 1)) ∧ i = .int .i64 q ∧ q ≤ (predsOf ed s).length ∧ fs.length ≤ fs'.length ∧ Hid (fs'[h]? = some (s : Int)) ∧ Hid (BwdD ⟨al,k,mr,ed⟩ k tg fs' d' h q) ∧ Hid (negC k d' + fs'.length = C) ∧ Hid (Sep w.heap.size w ([eQ rest (.slice AQ2 rest.length cQ2),eBlk go 3 (mkI k d'),eBlk gi 31 ((List.range k).map vs),eBlk w.heap.size 140 [.slice A1 al.length c1,.int .i64 (k : Int),.slice A2 mr.length c2,.slice A3 ed.length c3,.slice (some ⟨g0,0,none⟩) (k + 1) (k + 1)]] ++ rowsE k (fun s => predsOf ed s) vs) wr2)) (fun _ i _ => (predsOf ed s).length - (intOf i).toNat)
              case atStart => exact ⟨0,fs,d,fs.drop (h + 1),some AT2,cQ' - 1,by rw [HD1.out],rfl,rfl,Nat.zero_le _,Nat.le_refl _,FS.out,B.out,HC.out,S1.out⟩
              case round =>
               clear S1 ic B HC
               obtain ⟨q,fs',d',rest,AQ2,cQ2,rfl,HRE,rfl,hq,hff,FS',B',HC',S⟩ := hrel
               have hfl' : fs'.length ≤ k := B'.out.b.len
               have hhl : h < fs'.length := (List.getElem?_eq_some_iff.1 FS'.out).1
               by_cases hlt4 : q < (predsOf ed s).length
               · obtain ⟨b,off,p,hAe,hb,hp,cp⟩ := IntsAt.at (Sep.ints S.out (4 + s) (HRI.out _ _ _ _)) hlt4
                 subst hAe
                 obtain ⟨x,hx,x1,x2⟩ := mem_predsOf.1 (List.mem_of_getElem? hp)
                 have hxr := edge_next HR.out hx
                 have hp0 : 0 ≤ p := by rw [← x2]; exact hxr.2.1
                 have hp1 : p < (k : Int) := by rw [← x2]; exact hxr.2.2.1
                 obtain ⟨pn,rfl⟩ := Int.eq_ofNat_of_zero_le hp0
                 have hpN : pn < k := by omega
                 have HP := Lib.hid hp
                 have oc := (BlkAt.cell (S.out.get 1 rfl) pn).trans (mkI_get hpN)
                 clear hx x1 x2 hxr hp hp0 hp1 hb
                 by_cases hneg : d' pn < 0
                 · have os := (BlkAt.cell (S.out.get 1 rfl) s).trans (mkI_get hsN)
                   have of := BlkAt.free (S.out.get 1 rfl) pn
                   have hds0 : 0 ≤ d' s := (B'.out.b.mem s hsN).2 (List.mem_of_getElem? FS'.out)
                   have hds1 : d' s ≤ h := by have := B'.out.b.le h _ FS'.out; simpa using this
                   have hwr : IntKind.i64.wrap (d' s + 1) = d' s + 1 := IntWalk.i64_in _ (by omega)
                   have hm : ¬ (pn : Int) ∈ fs' := fun g => by have := (B'.out.b.mem pn hpN).2 g; omega
                   have B2 : Hid (BwdD ⟨al,k,mr,ed⟩ k tg (fs' ++ [(pn : Int)]) (fun t => if t = pn then d' s + 1 else d' t) h (q + 1)) := B'.out.new HR.out rfl FS'.out HP.out hm
                   have HC2 : Hid (negC k (fun t => if t = pn then d' s + 1 else d' t) + (fs' ++ [(pn : Int)]).length = C) := by
                    have h1 := negC_put (d := d') (p := pn) (x := d' s + 1) hneg (by omega) k
                    rw [if_pos hpN] at h1
                    have h2 := HC'.out
                    unfold Hid
                    rw [List.length_append,List.length_singleton]
                    omega
                   have S2 : Hid (Sep w.heap.size w ([eQ rest (.slice AQ2 rest.length cQ2),eBlk go 3 (mkI k fun t => if t = pn then d' s + 1 else d' t),eBlk gi 31 ((List.range k).map vs),eBlk w.heap.size 140 [.slice A1 al.length c1,.int .i64 (k : Int),.slice A2 mr.length c2,.slice A3 ed.length c3,.slice (some ⟨g0,0,none⟩) (k + 1) (k + 1)]] ++ rowsE k (fun s => predsOf ed s) vs) (wr.setCell ⟨go,pn,none⟩ (.int .i64 (d' s + 1)))) := by
                    have h := S.out.set 1 rfl pn (.int .i64 (d' s + 1))
                    rw [mkI_set] at h
                    exact h
                   have hdr : rest ++ [(pn : Int)] = (fs' ++ [(pn : Int)]).drop (h + 1) := by rw [List.drop_append_of_le_length (by omega),HRE.out]
                   have HDR := Lib.hid hdr
                   have hll : rest.length ≤ 1048576 := by rw [HRE.out,List.length_drop]; omega
                   clear hdr hm hds0 hds1 S B' HC'
                   go_wp2_with (at_builtin; refine wpList_pushQ (enc := encI) (k := 1) (fun _ => rfl) rfl _ _ 31 rfl (S2.out.alloc 3 [.int .i64 (pn : Int)]) 1 rfl Tryz.underlying31 _ 8 intInfo rfl (by decide) rfl (pn : Int) _ rfl (one_cell _ _ [_] _ (by simp)) (encI_one _) hll (by decide) ?_)
                   intro A3' c3' w3 S3
                   have S4 : Hid (Sep w.heap.size w ([eQ (rest ++ [(pn : Int)]) (.slice A3' (rest.length + 1) c3'),eBlk go 3 (mkI k fun t => if t = pn then d' s + 1 else d' t),eBlk gi 31 ((List.range k).map vs),eBlk w.heap.size 140 [.slice A1 al.length c1,.int .i64 (k : Int),.slice A2 mr.length c2,.slice A3 ed.length c3,.slice (some ⟨g0,0,none⟩) (k + 1) (k + 1)]] ++ rowsE k (fun s => predsOf ed s) vs) w3) := S3.drop1
                   clear S3 S2 oc os of
                   go_wp2_with fail
                   go_roundw
                   case rel => exact ⟨q + 1,fs' ++ [(pn : Int)],_,rest ++ [(pn : Int)],A3',c3',by rw [List.length_append]; rfl,HDR.out,by go_num,by omega,by rw [List.length_append]; omega,(List.getElem?_append_left hhl).trans FS'.out,B2.out,HC2.out,by rw [List.length_append]; exact S4.out⟩
                   case measure => simp [intOf]; omega
                 · have hnn : 0 ≤ d' pn := by omega
                   have B2 : Hid (BwdD ⟨al,k,mr,ed⟩ k tg fs' d' h (q + 1)) := B'.out.old FS'.out HP.out ((B'.out.b.mem pn hpN).1 hnn)
                   have hdf : decide (d' pn < 0) = false := by simp; omega
                   clear B'
                   go_wp2_with fail
                   go_roundw
                   case rel => exact ⟨q + 1,fs',d',rest,AQ2,cQ2,rfl,HRE.out,by go_num,by omega,hff,FS'.out,B2.out,HC'.out,S.out⟩
                   case measure => simp [intOf]; omega
               · obtain rfl : q = (predsOf ed s).length := by omega
                 have B2 : Hid (BwdD ⟨al,k,mr,ed⟩ k tg fs' d' (h + 1) 0) := B'.out.next FS'.out (Nat.le_refl _)
                 have HW : Hid (wNeg wr go k = negC k d') := wNeg_eq (S.out.get 1 rfl)
                 clear B'
                 go_wp2_with fail
                 go_roundw
                 case rel => exact ⟨fs',h + 1,d',AQ2,cQ2,by rw [← HRE.out],hhl,B2.out,HC'.out,by rw [← HRE.out]; exact S.out⟩
                 case measure =>
                  have h1 := HN0.out
                  have h2 := HW.out
                  have h3 := HC'.out
                  have h4 : rest.length = fs'.length - (h + 1) := by rw [HRE.out]; exact List.length_drop ..
                  simp only [lenOf]
                  omega
           · obtain rfl : h = fs.length := by omega
             have HF : Hid (DistOk ⟨al,k,mr,ed⟩ k tg d) := B.out.fin HR.out rfl HNN.out
             have hdl : (fs.drop fs.length).length = 0 := by simp
             rw [hdl] at S ⊢
             clear hdl
             go_wp2_with fail
             go_ret
             exact ⟨go,d,rfl,S.out.left.pick [1] (by decide),HF.out⟩
end Go.Proofs.YtimdepdbcdbikaaGreat
