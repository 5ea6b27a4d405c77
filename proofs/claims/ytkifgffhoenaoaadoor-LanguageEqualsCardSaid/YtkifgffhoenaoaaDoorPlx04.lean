/-
  language.Equal at right automata.
-/
import Derived.Test.YtkifgffhoenaoaaDoorBas01
import Derived.Test.YtkifgffhoenaoaaDoorBas17
import Derived.Test.YtkifgffhoenaoaaDoorBas15
set_option linter.unusedSimpArgs false
set_option linter.unusedVariables false
namespace Go.Proofs.YtkifgffhoenaoaaDoor
open Go.RowKit
set_option maxRecDepth 100000
def eqP (a b : Au) (kind : Int) (q : Int × Int) : Bool := inV a q.1 kind != inV b q.2 kind
set_option maxHeartbeats 2000000 in
theorem eq1_c (n1 n2 n3 b1 b2 : Nat) (a b : Au) (kind x y : Int) (w : World) (c1 : w.cell? ⟨n1,0,none⟩ = some (.pointer (some ⟨b1,0,none⟩))) (c2 : w.cell? ⟨n2,0,none⟩ = some (.int .i64 kind)) (c3 : w.cell? ⟨n3,0,none⟩ = some (.pointer (some ⟨b2,0,none⟩)))
 (z1 : n1 < w.heap.size) (z2 : n2 < w.heap.size) (z3 : n3 < w.heap.size) (h1 : Mach w b1 a) (h2 : Mach w b2 b) :
 Calls Tryd.prog 62 #[.agg #[.int .i64 x,.int .i64 y],.pointer (some ⟨n1,0,none⟩),.pointer (some ⟨n2,0,none⟩),.pointer (some ⟨n3,0,none⟩)] w (Ret (.bool (eqP a b kind (x,y))) w) := by
 obtain ⟨px,hpx⟩ : ∃ p,inV a x kind = p := ⟨_,rfl⟩
 obtain ⟨qy,hqy⟩ : ∃ p,inV b y kind = p := ⟨_,rfl⟩
 have H1 : Hid (∀ V,Below w.heap.size w V → Calls Tryd.prog 42 #[.pointer (some ⟨b1,0,none⟩),.int .i64 x,.int .i64 kind] V fun r w' => r = .returned (.bool px) ∧ V = w') := fun V hb => by rw [← hpx]; exact min_c b1 a x kind V (h1.below hb)
 have H2 : Hid (∀ V,Below w.heap.size w V → Calls Tryd.prog 42 #[.pointer (some ⟨b2,0,none⟩),.int .i64 y,.int .i64 kind] V fun r w' => r = .returned (.bool qy) ∧ V = w') := fun V hb => by rw [← hqy]; exact min_c b2 b y kind V (h2.below hb)
 have e : eqP a b kind (x,y) = (px != qy) := by unfold eqP; simp only; rw [hpx,hqy]
 rw [e]
 clear h1 h2 hpx hqy e
 cases px <;> cases qy
 all_goals
  go_enter Tryd.func62,Tryd.ntmps62
  go_upto_region 1 with fail
  refine wp_world (fun W => Sep w.heap.size w [eBlk w.heap.size 75 [.int .i64 x,.int .i64 y]] W) ?_ fun W0 S => ?_
  · exact (Sep.here w).alloc' _ [_,_] rfl rfl
  have S0 := Lib.hid S
  clear S
  have S63 := Lib.hid S0.out.drew
  refine wp_region_held_drew (S := (fun V => Sep w.heap.size w [eBlk w.heap.size 75 [.int .i64 x,.int .i64 y]] V)) (by kernel_rfl) ?_ (fun hHeld => ?_)
  · exact S63.out.pick [0] (by decide)
  generalize hwz : W0.drew = w63 at *
  clear hwz
  refine tkH 0 rfl (v := ?_) (by kernel_rfl) ?_ hHeld ?_
  rotate_left
  · intro V hSw
    have b0 := old_cell (show Sep w.heap.size w _ V from hSw).below c1 z1
    clear hSw
    first | (go_simp; done) | (go_simp; with_reducible rfl)
  try simp only [sx]
  refine tkP 1 rfl (v := ?_) hHeld ?_
  try simp only [sx]
  refine tkH 2 rfl (v := ?_) (by kernel_rfl) ?_ hHeld ?_
  rotate_left
  · intro V hSw
    have b0 := ckC hSw 0 rfl 0 rfl
    clear hSw
    first | (go_simp; done) | (go_simp; with_reducible rfl)
  try simp only [sx]
  refine tkH 3 rfl (v := ?_) (by kernel_rfl) ?_ hHeld ?_
  rotate_left
  · intro V hSw
    have b0 := old_cell (show Sep w.heap.size w _ V from hSw).below c2 z2
    clear hSw
    first | (go_simp; done) | (go_simp; with_reducible rfl)
  try simp only [sx]
  refine tkH 5 rfl (v := ?_) (by kernel_rfl) ?_ hHeld ?_
  rotate_left
  · intro V hSw
    have b0 := old_cell (show Sep w.heap.size w _ V from hSw).below c3 z3
    clear hSw
    first | (go_simp; done) | (go_simp; with_reducible rfl)
  try simp only [sx]
  refine tkP 6 rfl (v := ?_) hHeld ?_
  try simp only [sx]
  refine tkH 7 rfl (v := ?_) (by kernel_rfl) ?_ hHeld ?_
  rotate_left
  · intro V hSw
    have b1 := ckC hSw 0 rfl 1 rfl
    clear hSw
    first | (go_simp; done) | (go_simp; with_reducible rfl)
  try simp only [sx]
  refine tkH 8 rfl (v := ?_) (by kernel_rfl) ?_ hHeld ?_
  rotate_left
  · intro V hSw
    have b0 := old_cell (show Sep w.heap.size w _ V from hSw).below c2 z2
    clear hSw
    first | (go_simp; done) | (go_simp; with_reducible rfl)
  try simp only [sx]
  refine rdH 4 rfl fun K hK => ?_
  go_simp
  refine (H1.out w63 S63.out.below).mono ?_
  rintro e w64 ⟨rfl,he⟩
  have S64 : Hid (Sep w.heap.size w [eBlk w.heap.size 75 [.int .i64 x,.int .i64 y]] w64) := he ▸ S63.out
  clear he
  refine hK.out _ _ ?_ (fun hHeld => ?_)
  · exact S64.out.pick [0] (by decide)
  clear hK K
  try simp only [sx]
  refine rdH 9 rfl fun K hK => ?_
  go_simp
  refine (H2.out w64 S64.out.below).mono ?_
  rintro e w65 ⟨rfl,he⟩
  have S65 : Hid (Sep w.heap.size w [eBlk w.heap.size 75 [.int .i64 x,.int .i64 y]] w65) := he ▸ S64.out
  clear he
  refine hK.out _ _ ?_ (fun hHeld => ?_)
  · exact S65.out.pick [0] (by decide)
  clear hK K
  try simp only [sx]
  refine tkP 10 rfl (v := ?_) hHeld ?_
  try simp only [sx]
  refine tkP 11 rfl (v := ?_) hHeld ?_
  try simp only [sx]
  refine wpAnyH_done (by kernel_rfl) ?_ _
  go_wp2_with fail
  go_ret
  exact ⟨rfl,S65.out.below⟩
theorem eq_flip {P : List Int → Prop} {f : Bool} {l : List Int} (h : f = true ∧ LeastW P l ∨ f = false ∧ l = [] ∧ ∀ u,¬ P u) : (!f) = false ∧ LeastW P l ∨ (!f) = true ∧ l = [] ∧ ∀ u,¬ P u := by
 rcases h with ⟨rfl,h⟩ | ⟨rfl,h⟩
 · exact .inl ⟨rfl,h⟩
 · exact .inr ⟨rfl,h⟩
set_option maxHeartbeats 16000000 in
theorem equalL_c (a b : Au) (p q : AuP) (kind : Int) (w : World) (hA : Au.At w a p) (hB : Au.At w b q) (ha : a.Right) (hb : b.Right) (hpa : Caps a p) (hpb : Caps b q) (hN : (a.n.toNat + 2) * (b.n.toNat + 2) ≤ 1000000) (hk : kind = 1 ∨ kind = 2) :
 Calls Tryd.prog 32 #[a.val p,b.val q,.int .i64 kind] w (GivesQ a b (unionV a.al b.al) (eqP a b kind) w) := by
 have HRA := Lib.hid ha
 have HRB := Lib.hid hb
 have HCA := Lib.hid hpa
 have HCB := Lib.hid hpb
 have HA := Lib.hid hA
 have HB := Lib.hid hB
 have HK := Lib.hid hk
 have la : a.al.length ≤ 32 := by simpa using ha.al.short
 have lb : b.al.length ≤ 32 := by simpa using hb.al.short
 have HUI := Lib.hid (setOk_union ha.al hb.al).incr
 have HUL : Hid ((unionV a.al b.al).length ≤ 32) := by simpa [Hid] using (setOk_union ha.al hb.al).short
 obtain ⟨al,n,mr,ed⟩ := a
 obtain ⟨A1,c1,A2,c2,A3,c3⟩ := p
 obtain ⟨bl,k,ms,es⟩ := b
 obtain ⟨B1,d1,B2,d2,B3,d3⟩ := q
 dsimp only [Au.val] at la lb hN ⊢
 clear ha hb hpa hpb hA hB hk
 go_enter Tryd.func32,Tryd.ntmps32
 go_upto_region 1 with fail
 refine wp_world (fun W => Sep w.heap.size w [eBlk (w.heap.size + 2) 3 [.int .i64 kind],eBlk (w.heap.size + 1) 35 [.slice B1 bl.length d1,.int .i64 k,.slice B2 ms.length d2,.slice B3 es.length d3],eBlk w.heap.size 35 [.slice A1 al.length c1,.int .i64 n,.slice A2 mr.length c2,.slice A3 ed.length c3]] W) ?_ fun W S => ?_
 · exact (((Sep.here w).alloc' _ [_,_,_,_] rfl rfl).alloc' _ [_,_,_,_] rfl (by simp)).alloc' _ [_] rfl (by simp)
 have SA := Lib.hid S
 clear S
 have a0 := ckC SA.out 2 rfl 0 rfl
 have a1 := ckC SA.out 2 rfl 1 rfl
 have a2 := ckC SA.out 2 rfl 2 rfl
 have a3 := ckC SA.out 2 rfl 3 rfl
 have b0 := ckC SA.out 1 rfl 0 rfl
 have b1 := ckC SA.out 1 rfl 1 rfl
 have b2 := ckC SA.out 1 rfl 2 rfl
 have b3 := ckC SA.out 1 rfl 3 rfl
 have k0 := ckC SA.out 0 rfl 0 rfl
 have CK : Hid (SlAt AuE 4 (W.alloc (.cells #[.slice A1 al.length c1,.int .i64 n,.slice A2 mr.length c2,.slice A3 ed.length c3,.slice B1 bl.length d1,.int .i64 k,.slice B2 ms.length d2,.slice B3 es.length d3] 35)) (some ⟨W.heap.size,0,none⟩) [⟨al,n,mr,ed⟩,⟨bl,k,ms,es⟩]) := AuE.two _ _ _ ⟨A1,c1,A2,c2,A3,c3⟩ ⟨B1,d1,B2,d2,B3,d3⟩ W (HA.out.below SA.out.below) (HB.out.below SA.out.below)
 have CR : Hid (∀ a,a ∈ [(⟨al,n,mr,ed⟩ : Au),⟨bl,k,ms,es⟩] → a.Right) := fun a h => by
  simp only [List.mem_cons,List.not_mem_nil,or_false] at h
  rcases h with rfl | rfl
  · exact HRA.out
  · exact HRB.out
 go_wp2_with fail
 refine (check_c (some ⟨W.heap.size,0,none⟩) 2 [⟨al,n,mr,ed⟩,⟨bl,k,ms,es⟩] kind _ CK.out (by simp) CR.out HK.out).mono ?_
 rintro e w1 ⟨rfl,hb⟩
 have S0 : Hid (Sep w.heap.size w [eBlk (w.heap.size + 2) 3 [.int .i64 kind],eBlk (w.heap.size + 1) 35 [.slice B1 bl.length d1,.int .i64 k,.slice B2 ms.length d2,.slice B3 es.length d3],eBlk w.heap.size 35 [.slice A1 al.length c1,.int .i64 n,.slice A2 mr.length c2,.slice A3 ed.length c3]] w1) := (SA.out.next (Below.new W _)).next hb
 clear hb CK CR SA a0 a1 a2 a3 b0 b1 b2 b3 k0
 go_upto_region 4 with fail
 refine wp_world (fun W => Sep w.heap.size w [eBlk (w.heap.size + 2) 3 [.int .i64 kind],eBlk (w.heap.size + 1) 35 [.slice B1 bl.length d1,.int .i64 k,.slice B2 ms.length d2,.slice B3 es.length d3],eBlk w.heap.size 35 [.slice A1 al.length c1,.int .i64 n,.slice A2 mr.length c2,.slice A3 ed.length c3]] W) S0.out fun W2 S' => ?_
 have S1 := Lib.hid S'
 clear S' S0
 have S0 := S1
 clear S1
 go_cut [10,11] (fun v10 v11 wx => ∃ nx ny bx by_ m1 m2 m3 m4,v10 = .pointer (some ⟨nx,0,none⟩) ∧ v11 = .pointer (some ⟨ny,0,none⟩) ∧ Hid (Sep w.heap.size w [eBlk nx 71 [.pointer (some ⟨bx,0,none⟩)],eBlk ny 71 [.pointer (some ⟨by_,0,none⟩)],eMach bx m1 m2 (⟨al,n,mr,ed⟩ : Au),eMach by_ m3 m4 (⟨bl,k,ms,es⟩ : Au),eBlk (w.heap.size + 2) 3 [.int .i64 kind],eBlk (w.heap.size + 1) 35 [.slice B1 bl.length d1,.int .i64 k,.slice B2 ms.length d2,.slice B3 es.length d3],eBlk w.heap.size 35 [.slice A1 al.length c1,.int .i64 n,.slice A2 mr.length c2,.slice A3 ed.length c3]] wx))
 case first =>
  have S1 := Lib.hid S0.out.drew
  refine wp_region_held_drew (S := (fun V => Sep w.heap.size w [eBlk (w.heap.size + 1) 35 [.slice B1 bl.length d1,.int .i64 k,.slice B2 ms.length d2,.slice B3 es.length d3],eBlk w.heap.size 35 [.slice A1 al.length c1,.int .i64 n,.slice A2 mr.length c2,.slice A3 ed.length c3]] V)) (by kernel_rfl) ?_ (fun hHeld => ?_)
  · exact S1.out.pick [1,2] (by decide)
  generalize hwz : W2.drew = w1 at *
  clear hwz
  refine tkH 0 rfl (v := ?_) (by kernel_rfl) ?_ hHeld ?_
  rotate_left
  · intro V hSw
    have b0 := ckC hSw 1 rfl 0 rfl
    have b1 := ckC hSw 1 rfl 1 rfl
    have b2 := ckC hSw 1 rfl 2 rfl
    have b3 := ckC hSw 1 rfl 3 rfl
    clear hSw
    first | (go_simp; done) | (go_simp; with_reducible rfl)
  try simp only [sx]
  refine tkH 2 rfl (v := ?_) (by kernel_rfl) ?_ hHeld ?_
  rotate_left
  · intro V hSw
    have b0 := ckC hSw 0 rfl 0 rfl
    have b1 := ckC hSw 0 rfl 1 rfl
    have b2 := ckC hSw 0 rfl 2 rfl
    have b3 := ckC hSw 0 rfl 3 rfl
    clear hSw
    first | (go_simp; done) | (go_simp; with_reducible rfl)
  try simp only [sx]
  refine wpAnyH_ready (rs := [1,4,5]) (by kernel_rfl) (by simp) ?_
  refine AllReadyH.cons rfl (fun K hK => ?_) (AllReadyH.cons rfl (fun K hK => ?_) (AllReadyH.cons rfl (fun K hK => ?_) AllReadyH.nil))
  · skip
    go_simp
    refine (open_c ⟨al,n,mr,ed⟩ ⟨A1,c1,A2,c2,A3,c3⟩ w1 (HA.out.below S1.out.below)).mono ?_
    rintro e w2 ⟨bx,m1,m2,rfl,hz,HM,hb⟩
    have S2 : Hid (Sep w.heap.size w [eMach bx m1 m2 (⟨al,n,mr,ed⟩ : Au),eBlk (w.heap.size + 2) 3 [.int .i64 kind],eBlk (w.heap.size + 1) 35 [.slice B1 bl.length d1,.int .i64 k,.slice B2 ms.length d2,.slice B3 es.length d3],eBlk w.heap.size 35 [.slice A1 al.length c1,.int .i64 n,.slice A2 mr.length c2,.slice A3 ed.length c3]] w2) := S1.out.newMach hb hz.1 hz.2.1 hz.2.2 HM.out
    clear HM hb hz
    refine hK.out _ _ ?_ (fun hHeld => ?_)
    · exact S2.out.pick [2,3] (by decide)
    clear hK K
    try simp only [sx]
    refine wpAnyH_ready (rs := [3,4,5]) (by kernel_rfl) (by simp) ?_
    refine AllReadyH.cons rfl (fun K hK => ?_) (AllReadyH.cons rfl (fun K hK => ?_) (AllReadyH.cons rfl (fun K hK => ?_) AllReadyH.nil))
    · skip
      go_simp
      refine (open_c ⟨bl,k,ms,es⟩ ⟨B1,d1,B2,d2,B3,d3⟩ w2 (HB.out.below S2.out.below)).mono ?_
      rintro e w3 ⟨by_,m3,m4,rfl,hz,HM,hb⟩
      have S3 : Hid (Sep w.heap.size w [eMach by_ m3 m4 (⟨bl,k,ms,es⟩ : Au),eMach bx m1 m2 (⟨al,n,mr,ed⟩ : Au),eBlk (w.heap.size + 2) 3 [.int .i64 kind],eBlk (w.heap.size + 1) 35 [.slice B1 bl.length d1,.int .i64 k,.slice B2 ms.length d2,.slice B3 es.length d3],eBlk w.heap.size 35 [.slice A1 al.length c1,.int .i64 n,.slice A2 mr.length c2,.slice A3 ed.length c3]] w3) := S2.out.newMach hb hz.1 hz.2.1 hz.2.2 HM.out
      clear HM hb hz
      refine hK.out _ _ ?_ (fun hHeld => ?_)
      · exact S3.out.pick [3,4] (by decide)
      clear hK K
      try simp only [sx]
      refine wpAnyH_ready (rs := [4,5]) (by kernel_rfl) (by simp) ?_
      refine AllReadyH.cons rfl (fun K hK => ?_) (AllReadyH.cons rfl (fun K hK => ?_) AllReadyH.nil)
      · skip
        go_simp
        obtain ⟨nnx,hnnx⟩ : ∃ n,n = w3.heap.size := ⟨_,rfl⟩
        obtain ⟨w4,hw4⟩ : ∃ v,v = w3.alloc (.cells #[.pointer none] 71) := ⟨_,rfl⟩
        rw [← hw4,← hnnx]
        have S4 := ckA S3.out hw4 hnnx
        skip
        clear hw4 hnnx
        refine hK.out _ _ ?_ (fun hHeld => ?_)
        · exact S4.out.pick [4,5] (by decide)
        clear hK K
        try simp only [sx]
        refine rdH 5 rfl fun K hK => ?_
        go_simp
        obtain ⟨nny,hnny⟩ : ∃ n,n = w4.heap.size := ⟨_,rfl⟩
        obtain ⟨w5,hw5⟩ : ∃ v,v = w4.alloc (.cells #[.pointer none] 71) := ⟨_,rfl⟩
        rw [← hw5,← hnny]
        have S5 := ckA S4.out hw5 hnny
        skip
        clear hw5 hnny
        refine hK.out _ _ ?_ (fun hHeld => ?_)
        · exact S5.out.pick [5,6] (by decide)
        clear hK K
        try simp only [sx]
        refine rdH 6 rfl fun K hK => ?_
        have sc0 := ckC S5.out 1 rfl 0 rfl
        have sf0 := BlkAt.free (S5.out.get 1 rfl) 0
        try dsimp only [Au.val] at *
        go_simp
        obtain ⟨w6,hw6⟩ : ∃ v,v = (w5.setCell ⟨nnx,0,none⟩ (.pointer (some ⟨bx,0,none⟩))) := ⟨_,rfl⟩
        rw [← hw6]
        have S6 : Hid (Sep w.heap.size w [eBlk nny 71 [.pointer none],eBlk nnx 71 [.pointer (some ⟨bx,0,none⟩)],eMach by_ m3 m4 (⟨bl,k,ms,es⟩ : Au),eMach bx m1 m2 (⟨al,n,mr,ed⟩ : Au),eBlk (w.heap.size + 2) 3 [.int .i64 kind],eBlk (w.heap.size + 1) 35 [.slice B1 bl.length d1,.int .i64 k,.slice B2 ms.length d2,.slice B3 es.length d3],eBlk w.heap.size 35 [.slice A1 al.length c1,.int .i64 n,.slice A2 mr.length c2,.slice A3 ed.length c3]] w6) := by rw [hw6]; exact (S5.out.set 1 rfl 0 (.pointer (some ⟨bx,0,none⟩)))
        clear hw6 sc0 sf0
        refine hK.out _ _ ?_ (fun hHeld => ?_)
        · exact S6.out.pick [5,6] (by decide)
        clear hK K
        try simp only [sx]
        refine rdH 7 rfl fun K hK => ?_
        have sc0 := ckC S6.out 0 rfl 0 rfl
        have sf0 := BlkAt.free (S6.out.get 0 rfl) 0
        try dsimp only [Au.val] at *
        go_simp
        obtain ⟨w7,hw7⟩ : ∃ v,v = (w6.setCell ⟨nny,0,none⟩ (.pointer (some ⟨by_,0,none⟩))) := ⟨_,rfl⟩
        rw [← hw7]
        have S7 : Hid (Sep w.heap.size w [eBlk nny 71 [.pointer (some ⟨by_,0,none⟩)],eBlk nnx 71 [.pointer (some ⟨bx,0,none⟩)],eMach by_ m3 m4 (⟨bl,k,ms,es⟩ : Au),eMach bx m1 m2 (⟨al,n,mr,ed⟩ : Au),eBlk (w.heap.size + 2) 3 [.int .i64 kind],eBlk (w.heap.size + 1) 35 [.slice B1 bl.length d1,.int .i64 k,.slice B2 ms.length d2,.slice B3 es.length d3],eBlk w.heap.size 35 [.slice A1 al.length c1,.int .i64 n,.slice A2 mr.length c2,.slice A3 ed.length c3]] w7) := by rw [hw7]; exact (S6.out.set 0 rfl 0 (.pointer (some ⟨by_,0,none⟩)))
        clear hw7 sc0 sf0
        refine hK.out _ _ ?_ (fun hHeld => ?_)
        · exact S7.out.pick [5,6] (by decide)
        clear hK K
        try simp only [sx]
        refine wpAnyH_done (by kernel_rfl) ?_ _
        go_wp2_with fail
        go_meet
        exact ⟨nnx,nny,bx,by_,m1,m2,m3,m4,rfl,rfl,S7.out.pick [1,0,3,2,4,5,6] (by decide)⟩
      · skip
        go_simp
        obtain ⟨nny,hnny⟩ : ∃ n,n = w3.heap.size := ⟨_,rfl⟩
        obtain ⟨w8,hw8⟩ : ∃ v,v = w3.alloc (.cells #[.pointer none] 71) := ⟨_,rfl⟩
        rw [← hw8,← hnny]
        have S8 := ckA S3.out hw8 hnny
        skip
        clear hw8 hnny
        refine hK.out _ _ ?_ (fun hHeld => ?_)
        · exact S8.out.pick [4,5] (by decide)
        clear hK K
        try simp only [sx]
        refine rdH 4 rfl fun K hK => ?_
        go_simp
        obtain ⟨nnx,hnnx⟩ : ∃ n,n = w8.heap.size := ⟨_,rfl⟩
        obtain ⟨w9,hw9⟩ : ∃ v,v = w8.alloc (.cells #[.pointer none] 71) := ⟨_,rfl⟩
        rw [← hw9,← hnnx]
        have S9 := ckA S8.out hw9 hnnx
        skip
        clear hw9 hnnx
        refine hK.out _ _ ?_ (fun hHeld => ?_)
        · exact S9.out.pick [5,6] (by decide)
        clear hK K
        try simp only [sx]
        refine rdH 6 rfl fun K hK => ?_
        have sc0 := ckC S9.out 0 rfl 0 rfl
        have sf0 := BlkAt.free (S9.out.get 0 rfl) 0
        try dsimp only [Au.val] at *
        go_simp
        obtain ⟨w10,hw10⟩ : ∃ v,v = (w9.setCell ⟨nnx,0,none⟩ (.pointer (some ⟨bx,0,none⟩))) := ⟨_,rfl⟩
        rw [← hw10]
        have S10 : Hid (Sep w.heap.size w [eBlk nnx 71 [.pointer (some ⟨bx,0,none⟩)],eBlk nny 71 [.pointer none],eMach by_ m3 m4 (⟨bl,k,ms,es⟩ : Au),eMach bx m1 m2 (⟨al,n,mr,ed⟩ : Au),eBlk (w.heap.size + 2) 3 [.int .i64 kind],eBlk (w.heap.size + 1) 35 [.slice B1 bl.length d1,.int .i64 k,.slice B2 ms.length d2,.slice B3 es.length d3],eBlk w.heap.size 35 [.slice A1 al.length c1,.int .i64 n,.slice A2 mr.length c2,.slice A3 ed.length c3]] w10) := by rw [hw10]; exact (S9.out.set 0 rfl 0 (.pointer (some ⟨bx,0,none⟩)))
        clear hw10 sc0 sf0
        refine hK.out _ _ ?_ (fun hHeld => ?_)
        · exact S10.out.pick [5,6] (by decide)
        clear hK K
        try simp only [sx]
        refine rdH 7 rfl fun K hK => ?_
        have sc0 := ckC S10.out 1 rfl 0 rfl
        have sf0 := BlkAt.free (S10.out.get 1 rfl) 0
        try dsimp only [Au.val] at *
        go_simp
        obtain ⟨w11,hw11⟩ : ∃ v,v = (w10.setCell ⟨nny,0,none⟩ (.pointer (some ⟨by_,0,none⟩))) := ⟨_,rfl⟩
        rw [← hw11]
        have S11 : Hid (Sep w.heap.size w [eBlk nnx 71 [.pointer (some ⟨bx,0,none⟩)],eBlk nny 71 [.pointer (some ⟨by_,0,none⟩)],eMach by_ m3 m4 (⟨bl,k,ms,es⟩ : Au),eMach bx m1 m2 (⟨al,n,mr,ed⟩ : Au),eBlk (w.heap.size + 2) 3 [.int .i64 kind],eBlk (w.heap.size + 1) 35 [.slice B1 bl.length d1,.int .i64 k,.slice B2 ms.length d2,.slice B3 es.length d3],eBlk w.heap.size 35 [.slice A1 al.length c1,.int .i64 n,.slice A2 mr.length c2,.slice A3 ed.length c3]] w11) := by rw [hw11]; exact (S10.out.set 1 rfl 0 (.pointer (some ⟨by_,0,none⟩)))
        clear hw11 sc0 sf0
        refine hK.out _ _ ?_ (fun hHeld => ?_)
        · exact S11.out.pick [5,6] (by decide)
        clear hK K
        try simp only [sx]
        refine wpAnyH_done (by kernel_rfl) ?_ _
        go_wp2_with fail
        go_meet
        exact ⟨nnx,nny,bx,by_,m1,m2,m3,m4,rfl,rfl,S11.out.pick [0,1,3,2,4,5,6] (by decide)⟩
    · skip
      go_simp
      obtain ⟨nnx,hnnx⟩ : ∃ n,n = w2.heap.size := ⟨_,rfl⟩
      obtain ⟨w12,hw12⟩ : ∃ v,v = w2.alloc (.cells #[.pointer none] 71) := ⟨_,rfl⟩
      rw [← hw12,← hnnx]
      have S12 := ckA S2.out hw12 hnnx
      skip
      clear hw12 hnnx
      refine hK.out _ _ ?_ (fun hHeld => ?_)
      · exact S12.out.pick [3,4] (by decide)
      clear hK K
      try simp only [sx]
      refine wpAnyH_ready (rs := [3,5]) (by kernel_rfl) (by simp) ?_
      refine AllReadyH.cons rfl (fun K hK => ?_) (AllReadyH.cons rfl (fun K hK => ?_) AllReadyH.nil)
      · skip
        go_simp
        refine (open_c ⟨bl,k,ms,es⟩ ⟨B1,d1,B2,d2,B3,d3⟩ w12 (HB.out.below S12.out.below)).mono ?_
        rintro e w13 ⟨by_,m3,m4,rfl,hz,HM,hb⟩
        have S13 : Hid (Sep w.heap.size w [eMach by_ m3 m4 (⟨bl,k,ms,es⟩ : Au),eBlk nnx 71 [.pointer none],eMach bx m1 m2 (⟨al,n,mr,ed⟩ : Au),eBlk (w.heap.size + 2) 3 [.int .i64 kind],eBlk (w.heap.size + 1) 35 [.slice B1 bl.length d1,.int .i64 k,.slice B2 ms.length d2,.slice B3 es.length d3],eBlk w.heap.size 35 [.slice A1 al.length c1,.int .i64 n,.slice A2 mr.length c2,.slice A3 ed.length c3]] w13) := S12.out.newMach hb hz.1 hz.2.1 hz.2.2 HM.out
        clear HM hb hz
        refine hK.out _ _ ?_ (fun hHeld => ?_)
        · exact S13.out.pick [4,5] (by decide)
        clear hK K
        try simp only [sx]
        refine rdH 5 rfl fun K hK => ?_
        go_simp
        obtain ⟨nny,hnny⟩ : ∃ n,n = w13.heap.size := ⟨_,rfl⟩
        obtain ⟨w14,hw14⟩ : ∃ v,v = w13.alloc (.cells #[.pointer none] 71) := ⟨_,rfl⟩
        rw [← hw14,← hnny]
        have S14 := ckA S13.out hw14 hnny
        skip
        clear hw14 hnny
        refine hK.out _ _ ?_ (fun hHeld => ?_)
        · exact S14.out.pick [5,6] (by decide)
        clear hK K
        try simp only [sx]
        refine rdH 6 rfl fun K hK => ?_
        have sc0 := ckC S14.out 2 rfl 0 rfl
        have sf0 := BlkAt.free (S14.out.get 2 rfl) 0
        try dsimp only [Au.val] at *
        go_simp
        obtain ⟨w15,hw15⟩ : ∃ v,v = (w14.setCell ⟨nnx,0,none⟩ (.pointer (some ⟨bx,0,none⟩))) := ⟨_,rfl⟩
        rw [← hw15]
        have S15 : Hid (Sep w.heap.size w [eBlk nny 71 [.pointer none],eMach by_ m3 m4 (⟨bl,k,ms,es⟩ : Au),eBlk nnx 71 [.pointer (some ⟨bx,0,none⟩)],eMach bx m1 m2 (⟨al,n,mr,ed⟩ : Au),eBlk (w.heap.size + 2) 3 [.int .i64 kind],eBlk (w.heap.size + 1) 35 [.slice B1 bl.length d1,.int .i64 k,.slice B2 ms.length d2,.slice B3 es.length d3],eBlk w.heap.size 35 [.slice A1 al.length c1,.int .i64 n,.slice A2 mr.length c2,.slice A3 ed.length c3]] w15) := by rw [hw15]; exact (S14.out.set 2 rfl 0 (.pointer (some ⟨bx,0,none⟩)))
        clear hw15 sc0 sf0
        refine hK.out _ _ ?_ (fun hHeld => ?_)
        · exact S15.out.pick [5,6] (by decide)
        clear hK K
        try simp only [sx]
        refine rdH 7 rfl fun K hK => ?_
        have sc0 := ckC S15.out 0 rfl 0 rfl
        have sf0 := BlkAt.free (S15.out.get 0 rfl) 0
        try dsimp only [Au.val] at *
        go_simp
        obtain ⟨w16,hw16⟩ : ∃ v,v = (w15.setCell ⟨nny,0,none⟩ (.pointer (some ⟨by_,0,none⟩))) := ⟨_,rfl⟩
        rw [← hw16]
        have S16 : Hid (Sep w.heap.size w [eBlk nny 71 [.pointer (some ⟨by_,0,none⟩)],eMach by_ m3 m4 (⟨bl,k,ms,es⟩ : Au),eBlk nnx 71 [.pointer (some ⟨bx,0,none⟩)],eMach bx m1 m2 (⟨al,n,mr,ed⟩ : Au),eBlk (w.heap.size + 2) 3 [.int .i64 kind],eBlk (w.heap.size + 1) 35 [.slice B1 bl.length d1,.int .i64 k,.slice B2 ms.length d2,.slice B3 es.length d3],eBlk w.heap.size 35 [.slice A1 al.length c1,.int .i64 n,.slice A2 mr.length c2,.slice A3 ed.length c3]] w16) := by rw [hw16]; exact (S15.out.set 0 rfl 0 (.pointer (some ⟨by_,0,none⟩)))
        clear hw16 sc0 sf0
        refine hK.out _ _ ?_ (fun hHeld => ?_)
        · exact S16.out.pick [5,6] (by decide)
        clear hK K
        try simp only [sx]
        refine wpAnyH_done (by kernel_rfl) ?_ _
        go_wp2_with fail
        go_meet
        exact ⟨nnx,nny,bx,by_,m1,m2,m3,m4,rfl,rfl,S16.out.pick [2,0,3,1,4,5,6] (by decide)⟩
      · skip
        go_simp
        obtain ⟨nny,hnny⟩ : ∃ n,n = w12.heap.size := ⟨_,rfl⟩
        obtain ⟨w17,hw17⟩ : ∃ v,v = w12.alloc (.cells #[.pointer none] 71) := ⟨_,rfl⟩
        rw [← hw17,← hnny]
        have S17 := ckA S12.out hw17 hnny
        skip
        clear hw17 hnny
        refine hK.out _ _ ?_ (fun hHeld => ?_)
        · exact S17.out.pick [4,5] (by decide)
        clear hK K
        try simp only [sx]
        refine rdH 3 rfl fun K hK => ?_
        go_simp
        refine (open_c ⟨bl,k,ms,es⟩ ⟨B1,d1,B2,d2,B3,d3⟩ w17 (HB.out.below S17.out.below)).mono ?_
        rintro e w18 ⟨by_,m3,m4,rfl,hz,HM,hb⟩
        have S18 : Hid (Sep w.heap.size w [eMach by_ m3 m4 (⟨bl,k,ms,es⟩ : Au),eBlk nny 71 [.pointer none],eBlk nnx 71 [.pointer none],eMach bx m1 m2 (⟨al,n,mr,ed⟩ : Au),eBlk (w.heap.size + 2) 3 [.int .i64 kind],eBlk (w.heap.size + 1) 35 [.slice B1 bl.length d1,.int .i64 k,.slice B2 ms.length d2,.slice B3 es.length d3],eBlk w.heap.size 35 [.slice A1 al.length c1,.int .i64 n,.slice A2 mr.length c2,.slice A3 ed.length c3]] w18) := S17.out.newMach hb hz.1 hz.2.1 hz.2.2 HM.out
        clear HM hb hz
        refine hK.out _ _ ?_ (fun hHeld => ?_)
        · exact S18.out.pick [5,6] (by decide)
        clear hK K
        try simp only [sx]
        refine rdH 6 rfl fun K hK => ?_
        have sc0 := ckC S18.out 2 rfl 0 rfl
        have sf0 := BlkAt.free (S18.out.get 2 rfl) 0
        try dsimp only [Au.val] at *
        go_simp
        obtain ⟨w19,hw19⟩ : ∃ v,v = (w18.setCell ⟨nnx,0,none⟩ (.pointer (some ⟨bx,0,none⟩))) := ⟨_,rfl⟩
        rw [← hw19]
        have S19 : Hid (Sep w.heap.size w [eMach by_ m3 m4 (⟨bl,k,ms,es⟩ : Au),eBlk nny 71 [.pointer none],eBlk nnx 71 [.pointer (some ⟨bx,0,none⟩)],eMach bx m1 m2 (⟨al,n,mr,ed⟩ : Au),eBlk (w.heap.size + 2) 3 [.int .i64 kind],eBlk (w.heap.size + 1) 35 [.slice B1 bl.length d1,.int .i64 k,.slice B2 ms.length d2,.slice B3 es.length d3],eBlk w.heap.size 35 [.slice A1 al.length c1,.int .i64 n,.slice A2 mr.length c2,.slice A3 ed.length c3]] w19) := by rw [hw19]; exact (S18.out.set 2 rfl 0 (.pointer (some ⟨bx,0,none⟩)))
        clear hw19 sc0 sf0
        refine hK.out _ _ ?_ (fun hHeld => ?_)
        · exact S19.out.pick [5,6] (by decide)
        clear hK K
        try simp only [sx]
        refine rdH 7 rfl fun K hK => ?_
        have sc0 := ckC S19.out 1 rfl 0 rfl
        have sf0 := BlkAt.free (S19.out.get 1 rfl) 0
        try dsimp only [Au.val] at *
        go_simp
        obtain ⟨w20,hw20⟩ : ∃ v,v = (w19.setCell ⟨nny,0,none⟩ (.pointer (some ⟨by_,0,none⟩))) := ⟨_,rfl⟩
        rw [← hw20]
        have S20 : Hid (Sep w.heap.size w [eMach by_ m3 m4 (⟨bl,k,ms,es⟩ : Au),eBlk nny 71 [.pointer (some ⟨by_,0,none⟩)],eBlk nnx 71 [.pointer (some ⟨bx,0,none⟩)],eMach bx m1 m2 (⟨al,n,mr,ed⟩ : Au),eBlk (w.heap.size + 2) 3 [.int .i64 kind],eBlk (w.heap.size + 1) 35 [.slice B1 bl.length d1,.int .i64 k,.slice B2 ms.length d2,.slice B3 es.length d3],eBlk w.heap.size 35 [.slice A1 al.length c1,.int .i64 n,.slice A2 mr.length c2,.slice A3 ed.length c3]] w20) := by rw [hw20]; exact (S19.out.set 1 rfl 0 (.pointer (some ⟨by_,0,none⟩)))
        clear hw20 sc0 sf0
        refine hK.out _ _ ?_ (fun hHeld => ?_)
        · exact S20.out.pick [5,6] (by decide)
        clear hK K
        try simp only [sx]
        refine wpAnyH_done (by kernel_rfl) ?_ _
        go_wp2_with fail
        go_meet
        exact ⟨nnx,nny,bx,by_,m1,m2,m3,m4,rfl,rfl,S20.out.pick [2,1,3,0,4,5,6] (by decide)⟩
    · skip
      go_simp
      obtain ⟨nny,hnny⟩ : ∃ n,n = w2.heap.size := ⟨_,rfl⟩
      obtain ⟨w21,hw21⟩ : ∃ v,v = w2.alloc (.cells #[.pointer none] 71) := ⟨_,rfl⟩
      rw [← hw21,← hnny]
      have S21 := ckA S2.out hw21 hnny
      skip
      clear hw21 hnny
      refine hK.out _ _ ?_ (fun hHeld => ?_)
      · exact S21.out.pick [3,4] (by decide)
      clear hK K
      try simp only [sx]
      refine wpAnyH_ready (rs := [3,4]) (by kernel_rfl) (by simp) ?_
      refine AllReadyH.cons rfl (fun K hK => ?_) (AllReadyH.cons rfl (fun K hK => ?_) AllReadyH.nil)
      · skip
        go_simp
        refine (open_c ⟨bl,k,ms,es⟩ ⟨B1,d1,B2,d2,B3,d3⟩ w21 (HB.out.below S21.out.below)).mono ?_
        rintro e w22 ⟨by_,m3,m4,rfl,hz,HM,hb⟩
        have S22 : Hid (Sep w.heap.size w [eMach by_ m3 m4 (⟨bl,k,ms,es⟩ : Au),eBlk nny 71 [.pointer none],eMach bx m1 m2 (⟨al,n,mr,ed⟩ : Au),eBlk (w.heap.size + 2) 3 [.int .i64 kind],eBlk (w.heap.size + 1) 35 [.slice B1 bl.length d1,.int .i64 k,.slice B2 ms.length d2,.slice B3 es.length d3],eBlk w.heap.size 35 [.slice A1 al.length c1,.int .i64 n,.slice A2 mr.length c2,.slice A3 ed.length c3]] w22) := S21.out.newMach hb hz.1 hz.2.1 hz.2.2 HM.out
        clear HM hb hz
        refine hK.out _ _ ?_ (fun hHeld => ?_)
        · exact S22.out.pick [4,5] (by decide)
        clear hK K
        try simp only [sx]
        refine rdH 4 rfl fun K hK => ?_
        go_simp
        obtain ⟨nnx,hnnx⟩ : ∃ n,n = w22.heap.size := ⟨_,rfl⟩
        obtain ⟨w23,hw23⟩ : ∃ v,v = w22.alloc (.cells #[.pointer none] 71) := ⟨_,rfl⟩
        rw [← hw23,← hnnx]
        have S23 := ckA S22.out hw23 hnnx
        skip
        clear hw23 hnnx
        refine hK.out _ _ ?_ (fun hHeld => ?_)
        · exact S23.out.pick [5,6] (by decide)
        clear hK K
        try simp only [sx]
        refine rdH 6 rfl fun K hK => ?_
        have sc0 := ckC S23.out 0 rfl 0 rfl
        have sf0 := BlkAt.free (S23.out.get 0 rfl) 0
        try dsimp only [Au.val] at *
        go_simp
        obtain ⟨w24,hw24⟩ : ∃ v,v = (w23.setCell ⟨nnx,0,none⟩ (.pointer (some ⟨bx,0,none⟩))) := ⟨_,rfl⟩
        rw [← hw24]
        have S24 : Hid (Sep w.heap.size w [eBlk nnx 71 [.pointer (some ⟨bx,0,none⟩)],eMach by_ m3 m4 (⟨bl,k,ms,es⟩ : Au),eBlk nny 71 [.pointer none],eMach bx m1 m2 (⟨al,n,mr,ed⟩ : Au),eBlk (w.heap.size + 2) 3 [.int .i64 kind],eBlk (w.heap.size + 1) 35 [.slice B1 bl.length d1,.int .i64 k,.slice B2 ms.length d2,.slice B3 es.length d3],eBlk w.heap.size 35 [.slice A1 al.length c1,.int .i64 n,.slice A2 mr.length c2,.slice A3 ed.length c3]] w24) := by rw [hw24]; exact (S23.out.set 0 rfl 0 (.pointer (some ⟨bx,0,none⟩)))
        clear hw24 sc0 sf0
        refine hK.out _ _ ?_ (fun hHeld => ?_)
        · exact S24.out.pick [5,6] (by decide)
        clear hK K
        try simp only [sx]
        refine rdH 7 rfl fun K hK => ?_
        have sc0 := ckC S24.out 2 rfl 0 rfl
        have sf0 := BlkAt.free (S24.out.get 2 rfl) 0
        try dsimp only [Au.val] at *
        go_simp
        obtain ⟨w25,hw25⟩ : ∃ v,v = (w24.setCell ⟨nny,0,none⟩ (.pointer (some ⟨by_,0,none⟩))) := ⟨_,rfl⟩
        rw [← hw25]
        have S25 : Hid (Sep w.heap.size w [eBlk nnx 71 [.pointer (some ⟨bx,0,none⟩)],eMach by_ m3 m4 (⟨bl,k,ms,es⟩ : Au),eBlk nny 71 [.pointer (some ⟨by_,0,none⟩)],eMach bx m1 m2 (⟨al,n,mr,ed⟩ : Au),eBlk (w.heap.size + 2) 3 [.int .i64 kind],eBlk (w.heap.size + 1) 35 [.slice B1 bl.length d1,.int .i64 k,.slice B2 ms.length d2,.slice B3 es.length d3],eBlk w.heap.size 35 [.slice A1 al.length c1,.int .i64 n,.slice A2 mr.length c2,.slice A3 ed.length c3]] w25) := by rw [hw25]; exact (S24.out.set 2 rfl 0 (.pointer (some ⟨by_,0,none⟩)))
        clear hw25 sc0 sf0
        refine hK.out _ _ ?_ (fun hHeld => ?_)
        · exact S25.out.pick [5,6] (by decide)
        clear hK K
        try simp only [sx]
        refine wpAnyH_done (by kernel_rfl) ?_ _
        go_wp2_with fail
        go_meet
        exact ⟨nnx,nny,bx,by_,m1,m2,m3,m4,rfl,rfl,S25.out.pick [0,2,3,1,4,5,6] (by decide)⟩
      · skip
        go_simp
        obtain ⟨nnx,hnnx⟩ : ∃ n,n = w21.heap.size := ⟨_,rfl⟩
        obtain ⟨w26,hw26⟩ : ∃ v,v = w21.alloc (.cells #[.pointer none] 71) := ⟨_,rfl⟩
        rw [← hw26,← hnnx]
        have S26 := ckA S21.out hw26 hnnx
        skip
        clear hw26 hnnx
        refine hK.out _ _ ?_ (fun hHeld => ?_)
        · exact S26.out.pick [4,5] (by decide)
        clear hK K
        try simp only [sx]
        refine rdH 3 rfl fun K hK => ?_
        go_simp
        refine (open_c ⟨bl,k,ms,es⟩ ⟨B1,d1,B2,d2,B3,d3⟩ w26 (HB.out.below S26.out.below)).mono ?_
        rintro e w27 ⟨by_,m3,m4,rfl,hz,HM,hb⟩
        have S27 : Hid (Sep w.heap.size w [eMach by_ m3 m4 (⟨bl,k,ms,es⟩ : Au),eBlk nnx 71 [.pointer none],eBlk nny 71 [.pointer none],eMach bx m1 m2 (⟨al,n,mr,ed⟩ : Au),eBlk (w.heap.size + 2) 3 [.int .i64 kind],eBlk (w.heap.size + 1) 35 [.slice B1 bl.length d1,.int .i64 k,.slice B2 ms.length d2,.slice B3 es.length d3],eBlk w.heap.size 35 [.slice A1 al.length c1,.int .i64 n,.slice A2 mr.length c2,.slice A3 ed.length c3]] w27) := S26.out.newMach hb hz.1 hz.2.1 hz.2.2 HM.out
        clear HM hb hz
        refine hK.out _ _ ?_ (fun hHeld => ?_)
        · exact S27.out.pick [5,6] (by decide)
        clear hK K
        try simp only [sx]
        refine rdH 6 rfl fun K hK => ?_
        have sc0 := ckC S27.out 1 rfl 0 rfl
        have sf0 := BlkAt.free (S27.out.get 1 rfl) 0
        try dsimp only [Au.val] at *
        go_simp
        obtain ⟨w28,hw28⟩ : ∃ v,v = (w27.setCell ⟨nnx,0,none⟩ (.pointer (some ⟨bx,0,none⟩))) := ⟨_,rfl⟩
        rw [← hw28]
        have S28 : Hid (Sep w.heap.size w [eMach by_ m3 m4 (⟨bl,k,ms,es⟩ : Au),eBlk nnx 71 [.pointer (some ⟨bx,0,none⟩)],eBlk nny 71 [.pointer none],eMach bx m1 m2 (⟨al,n,mr,ed⟩ : Au),eBlk (w.heap.size + 2) 3 [.int .i64 kind],eBlk (w.heap.size + 1) 35 [.slice B1 bl.length d1,.int .i64 k,.slice B2 ms.length d2,.slice B3 es.length d3],eBlk w.heap.size 35 [.slice A1 al.length c1,.int .i64 n,.slice A2 mr.length c2,.slice A3 ed.length c3]] w28) := by rw [hw28]; exact (S27.out.set 1 rfl 0 (.pointer (some ⟨bx,0,none⟩)))
        clear hw28 sc0 sf0
        refine hK.out _ _ ?_ (fun hHeld => ?_)
        · exact S28.out.pick [5,6] (by decide)
        clear hK K
        try simp only [sx]
        refine rdH 7 rfl fun K hK => ?_
        have sc0 := ckC S28.out 2 rfl 0 rfl
        have sf0 := BlkAt.free (S28.out.get 2 rfl) 0
        try dsimp only [Au.val] at *
        go_simp
        obtain ⟨w29,hw29⟩ : ∃ v,v = (w28.setCell ⟨nny,0,none⟩ (.pointer (some ⟨by_,0,none⟩))) := ⟨_,rfl⟩
        rw [← hw29]
        have S29 : Hid (Sep w.heap.size w [eMach by_ m3 m4 (⟨bl,k,ms,es⟩ : Au),eBlk nnx 71 [.pointer (some ⟨bx,0,none⟩)],eBlk nny 71 [.pointer (some ⟨by_,0,none⟩)],eMach bx m1 m2 (⟨al,n,mr,ed⟩ : Au),eBlk (w.heap.size + 2) 3 [.int .i64 kind],eBlk (w.heap.size + 1) 35 [.slice B1 bl.length d1,.int .i64 k,.slice B2 ms.length d2,.slice B3 es.length d3],eBlk w.heap.size 35 [.slice A1 al.length c1,.int .i64 n,.slice A2 mr.length c2,.slice A3 ed.length c3]] w29) := by rw [hw29]; exact (S28.out.set 2 rfl 0 (.pointer (some ⟨by_,0,none⟩)))
        clear hw29 sc0 sf0
        refine hK.out _ _ ?_ (fun hHeld => ?_)
        · exact S29.out.pick [5,6] (by decide)
        clear hK K
        try simp only [sx]
        refine wpAnyH_done (by kernel_rfl) ?_ _
        go_wp2_with fail
        go_meet
        exact ⟨nnx,nny,bx,by_,m1,m2,m3,m4,rfl,rfl,S29.out.pick [1,2,3,0,4,5,6] (by decide)⟩
  · skip
    go_simp
    obtain ⟨nnx,hnnx⟩ : ∃ n,n = w1.heap.size := ⟨_,rfl⟩
    obtain ⟨w30,hw30⟩ : ∃ v,v = w1.alloc (.cells #[.pointer none] 71) := ⟨_,rfl⟩
    rw [← hw30,← hnnx]
    have S30 := ckA S1.out hw30 hnnx
    skip
    clear hw30 hnnx
    refine hK.out _ _ ?_ (fun hHeld => ?_)
    · exact S30.out.pick [2,3] (by decide)
    clear hK K
    try simp only [sx]
    refine wpAnyH_ready (rs := [1,5]) (by kernel_rfl) (by simp) ?_
    refine AllReadyH.cons rfl (fun K hK => ?_) (AllReadyH.cons rfl (fun K hK => ?_) AllReadyH.nil)
    · skip
      go_simp
      refine (open_c ⟨al,n,mr,ed⟩ ⟨A1,c1,A2,c2,A3,c3⟩ w30 (HA.out.below S30.out.below)).mono ?_
      rintro e w31 ⟨bx,m1,m2,rfl,hz,HM,hb⟩
      have S31 : Hid (Sep w.heap.size w [eMach bx m1 m2 (⟨al,n,mr,ed⟩ : Au),eBlk nnx 71 [.pointer none],eBlk (w.heap.size + 2) 3 [.int .i64 kind],eBlk (w.heap.size + 1) 35 [.slice B1 bl.length d1,.int .i64 k,.slice B2 ms.length d2,.slice B3 es.length d3],eBlk w.heap.size 35 [.slice A1 al.length c1,.int .i64 n,.slice A2 mr.length c2,.slice A3 ed.length c3]] w31) := S30.out.newMach hb hz.1 hz.2.1 hz.2.2 HM.out
      clear HM hb hz
      refine hK.out _ _ ?_ (fun hHeld => ?_)
      · exact S31.out.pick [3,4] (by decide)
      clear hK K
      try simp only [sx]
      refine wpAnyH_ready (rs := [3,5]) (by kernel_rfl) (by simp) ?_
      refine AllReadyH.cons rfl (fun K hK => ?_) (AllReadyH.cons rfl (fun K hK => ?_) AllReadyH.nil)
      · skip
        go_simp
        refine (open_c ⟨bl,k,ms,es⟩ ⟨B1,d1,B2,d2,B3,d3⟩ w31 (HB.out.below S31.out.below)).mono ?_
        rintro e w32 ⟨by_,m3,m4,rfl,hz,HM,hb⟩
        have S32 : Hid (Sep w.heap.size w [eMach by_ m3 m4 (⟨bl,k,ms,es⟩ : Au),eMach bx m1 m2 (⟨al,n,mr,ed⟩ : Au),eBlk nnx 71 [.pointer none],eBlk (w.heap.size + 2) 3 [.int .i64 kind],eBlk (w.heap.size + 1) 35 [.slice B1 bl.length d1,.int .i64 k,.slice B2 ms.length d2,.slice B3 es.length d3],eBlk w.heap.size 35 [.slice A1 al.length c1,.int .i64 n,.slice A2 mr.length c2,.slice A3 ed.length c3]] w32) := S31.out.newMach hb hz.1 hz.2.1 hz.2.2 HM.out
        clear HM hb hz
        refine hK.out _ _ ?_ (fun hHeld => ?_)
        · exact S32.out.pick [4,5] (by decide)
        clear hK K
        try simp only [sx]
        refine rdH 5 rfl fun K hK => ?_
        go_simp
        obtain ⟨nny,hnny⟩ : ∃ n,n = w32.heap.size := ⟨_,rfl⟩
        obtain ⟨w33,hw33⟩ : ∃ v,v = w32.alloc (.cells #[.pointer none] 71) := ⟨_,rfl⟩
        rw [← hw33,← hnny]
        have S33 := ckA S32.out hw33 hnny
        skip
        clear hw33 hnny
        refine hK.out _ _ ?_ (fun hHeld => ?_)
        · exact S33.out.pick [5,6] (by decide)
        clear hK K
        try simp only [sx]
        refine rdH 6 rfl fun K hK => ?_
        have sc0 := ckC S33.out 3 rfl 0 rfl
        have sf0 := BlkAt.free (S33.out.get 3 rfl) 0
        try dsimp only [Au.val] at *
        go_simp
        obtain ⟨w34,hw34⟩ : ∃ v,v = (w33.setCell ⟨nnx,0,none⟩ (.pointer (some ⟨bx,0,none⟩))) := ⟨_,rfl⟩
        rw [← hw34]
        have S34 : Hid (Sep w.heap.size w [eBlk nny 71 [.pointer none],eMach by_ m3 m4 (⟨bl,k,ms,es⟩ : Au),eMach bx m1 m2 (⟨al,n,mr,ed⟩ : Au),eBlk nnx 71 [.pointer (some ⟨bx,0,none⟩)],eBlk (w.heap.size + 2) 3 [.int .i64 kind],eBlk (w.heap.size + 1) 35 [.slice B1 bl.length d1,.int .i64 k,.slice B2 ms.length d2,.slice B3 es.length d3],eBlk w.heap.size 35 [.slice A1 al.length c1,.int .i64 n,.slice A2 mr.length c2,.slice A3 ed.length c3]] w34) := by rw [hw34]; exact (S33.out.set 3 rfl 0 (.pointer (some ⟨bx,0,none⟩)))
        clear hw34 sc0 sf0
        refine hK.out _ _ ?_ (fun hHeld => ?_)
        · exact S34.out.pick [5,6] (by decide)
        clear hK K
        try simp only [sx]
        refine rdH 7 rfl fun K hK => ?_
        have sc0 := ckC S34.out 0 rfl 0 rfl
        have sf0 := BlkAt.free (S34.out.get 0 rfl) 0
        try dsimp only [Au.val] at *
        go_simp
        obtain ⟨w35,hw35⟩ : ∃ v,v = (w34.setCell ⟨nny,0,none⟩ (.pointer (some ⟨by_,0,none⟩))) := ⟨_,rfl⟩
        rw [← hw35]
        have S35 : Hid (Sep w.heap.size w [eBlk nny 71 [.pointer (some ⟨by_,0,none⟩)],eMach by_ m3 m4 (⟨bl,k,ms,es⟩ : Au),eMach bx m1 m2 (⟨al,n,mr,ed⟩ : Au),eBlk nnx 71 [.pointer (some ⟨bx,0,none⟩)],eBlk (w.heap.size + 2) 3 [.int .i64 kind],eBlk (w.heap.size + 1) 35 [.slice B1 bl.length d1,.int .i64 k,.slice B2 ms.length d2,.slice B3 es.length d3],eBlk w.heap.size 35 [.slice A1 al.length c1,.int .i64 n,.slice A2 mr.length c2,.slice A3 ed.length c3]] w35) := by rw [hw35]; exact (S34.out.set 0 rfl 0 (.pointer (some ⟨by_,0,none⟩)))
        clear hw35 sc0 sf0
        refine hK.out _ _ ?_ (fun hHeld => ?_)
        · exact S35.out.pick [5,6] (by decide)
        clear hK K
        try simp only [sx]
        refine wpAnyH_done (by kernel_rfl) ?_ _
        go_wp2_with fail
        go_meet
        exact ⟨nnx,nny,bx,by_,m1,m2,m3,m4,rfl,rfl,S35.out.pick [3,0,2,1,4,5,6] (by decide)⟩
      · skip
        go_simp
        obtain ⟨nny,hnny⟩ : ∃ n,n = w31.heap.size := ⟨_,rfl⟩
        obtain ⟨w36,hw36⟩ : ∃ v,v = w31.alloc (.cells #[.pointer none] 71) := ⟨_,rfl⟩
        rw [← hw36,← hnny]
        have S36 := ckA S31.out hw36 hnny
        skip
        clear hw36 hnny
        refine hK.out _ _ ?_ (fun hHeld => ?_)
        · exact S36.out.pick [4,5] (by decide)
        clear hK K
        try simp only [sx]
        refine rdH 3 rfl fun K hK => ?_
        go_simp
        refine (open_c ⟨bl,k,ms,es⟩ ⟨B1,d1,B2,d2,B3,d3⟩ w36 (HB.out.below S36.out.below)).mono ?_
        rintro e w37 ⟨by_,m3,m4,rfl,hz,HM,hb⟩
        have S37 : Hid (Sep w.heap.size w [eMach by_ m3 m4 (⟨bl,k,ms,es⟩ : Au),eBlk nny 71 [.pointer none],eMach bx m1 m2 (⟨al,n,mr,ed⟩ : Au),eBlk nnx 71 [.pointer none],eBlk (w.heap.size + 2) 3 [.int .i64 kind],eBlk (w.heap.size + 1) 35 [.slice B1 bl.length d1,.int .i64 k,.slice B2 ms.length d2,.slice B3 es.length d3],eBlk w.heap.size 35 [.slice A1 al.length c1,.int .i64 n,.slice A2 mr.length c2,.slice A3 ed.length c3]] w37) := S36.out.newMach hb hz.1 hz.2.1 hz.2.2 HM.out
        clear HM hb hz
        refine hK.out _ _ ?_ (fun hHeld => ?_)
        · exact S37.out.pick [5,6] (by decide)
        clear hK K
        try simp only [sx]
        refine rdH 6 rfl fun K hK => ?_
        have sc0 := ckC S37.out 3 rfl 0 rfl
        have sf0 := BlkAt.free (S37.out.get 3 rfl) 0
        try dsimp only [Au.val] at *
        go_simp
        obtain ⟨w38,hw38⟩ : ∃ v,v = (w37.setCell ⟨nnx,0,none⟩ (.pointer (some ⟨bx,0,none⟩))) := ⟨_,rfl⟩
        rw [← hw38]
        have S38 : Hid (Sep w.heap.size w [eMach by_ m3 m4 (⟨bl,k,ms,es⟩ : Au),eBlk nny 71 [.pointer none],eMach bx m1 m2 (⟨al,n,mr,ed⟩ : Au),eBlk nnx 71 [.pointer (some ⟨bx,0,none⟩)],eBlk (w.heap.size + 2) 3 [.int .i64 kind],eBlk (w.heap.size + 1) 35 [.slice B1 bl.length d1,.int .i64 k,.slice B2 ms.length d2,.slice B3 es.length d3],eBlk w.heap.size 35 [.slice A1 al.length c1,.int .i64 n,.slice A2 mr.length c2,.slice A3 ed.length c3]] w38) := by rw [hw38]; exact (S37.out.set 3 rfl 0 (.pointer (some ⟨bx,0,none⟩)))
        clear hw38 sc0 sf0
        refine hK.out _ _ ?_ (fun hHeld => ?_)
        · exact S38.out.pick [5,6] (by decide)
        clear hK K
        try simp only [sx]
        refine rdH 7 rfl fun K hK => ?_
        have sc0 := ckC S38.out 1 rfl 0 rfl
        have sf0 := BlkAt.free (S38.out.get 1 rfl) 0
        try dsimp only [Au.val] at *
        go_simp
        obtain ⟨w39,hw39⟩ : ∃ v,v = (w38.setCell ⟨nny,0,none⟩ (.pointer (some ⟨by_,0,none⟩))) := ⟨_,rfl⟩
        rw [← hw39]
        have S39 : Hid (Sep w.heap.size w [eMach by_ m3 m4 (⟨bl,k,ms,es⟩ : Au),eBlk nny 71 [.pointer (some ⟨by_,0,none⟩)],eMach bx m1 m2 (⟨al,n,mr,ed⟩ : Au),eBlk nnx 71 [.pointer (some ⟨bx,0,none⟩)],eBlk (w.heap.size + 2) 3 [.int .i64 kind],eBlk (w.heap.size + 1) 35 [.slice B1 bl.length d1,.int .i64 k,.slice B2 ms.length d2,.slice B3 es.length d3],eBlk w.heap.size 35 [.slice A1 al.length c1,.int .i64 n,.slice A2 mr.length c2,.slice A3 ed.length c3]] w39) := by rw [hw39]; exact (S38.out.set 1 rfl 0 (.pointer (some ⟨by_,0,none⟩)))
        clear hw39 sc0 sf0
        refine hK.out _ _ ?_ (fun hHeld => ?_)
        · exact S39.out.pick [5,6] (by decide)
        clear hK K
        try simp only [sx]
        refine wpAnyH_done (by kernel_rfl) ?_ _
        go_wp2_with fail
        go_meet
        exact ⟨nnx,nny,bx,by_,m1,m2,m3,m4,rfl,rfl,S39.out.pick [3,1,2,0,4,5,6] (by decide)⟩
    · skip
      go_simp
      obtain ⟨nny,hnny⟩ : ∃ n,n = w30.heap.size := ⟨_,rfl⟩
      obtain ⟨w40,hw40⟩ : ∃ v,v = w30.alloc (.cells #[.pointer none] 71) := ⟨_,rfl⟩
      rw [← hw40,← hnny]
      have S40 := ckA S30.out hw40 hnny
      skip
      clear hw40 hnny
      refine hK.out _ _ ?_ (fun hHeld => ?_)
      · exact S40.out.pick [3,4] (by decide)
      clear hK K
      try simp only [sx]
      refine rdH 1 rfl fun K hK => ?_
      go_simp
      refine (open_c ⟨al,n,mr,ed⟩ ⟨A1,c1,A2,c2,A3,c3⟩ w40 (HA.out.below S40.out.below)).mono ?_
      rintro e w41 ⟨bx,m1,m2,rfl,hz,HM,hb⟩
      have S41 : Hid (Sep w.heap.size w [eMach bx m1 m2 (⟨al,n,mr,ed⟩ : Au),eBlk nny 71 [.pointer none],eBlk nnx 71 [.pointer none],eBlk (w.heap.size + 2) 3 [.int .i64 kind],eBlk (w.heap.size + 1) 35 [.slice B1 bl.length d1,.int .i64 k,.slice B2 ms.length d2,.slice B3 es.length d3],eBlk w.heap.size 35 [.slice A1 al.length c1,.int .i64 n,.slice A2 mr.length c2,.slice A3 ed.length c3]] w41) := S40.out.newMach hb hz.1 hz.2.1 hz.2.2 HM.out
      clear HM hb hz
      refine hK.out _ _ ?_ (fun hHeld => ?_)
      · exact S41.out.pick [4,5] (by decide)
      clear hK K
      try simp only [sx]
      refine rdH 3 rfl fun K hK => ?_
      go_simp
      refine (open_c ⟨bl,k,ms,es⟩ ⟨B1,d1,B2,d2,B3,d3⟩ w41 (HB.out.below S41.out.below)).mono ?_
      rintro e w42 ⟨by_,m3,m4,rfl,hz,HM,hb⟩
      have S42 : Hid (Sep w.heap.size w [eMach by_ m3 m4 (⟨bl,k,ms,es⟩ : Au),eMach bx m1 m2 (⟨al,n,mr,ed⟩ : Au),eBlk nny 71 [.pointer none],eBlk nnx 71 [.pointer none],eBlk (w.heap.size + 2) 3 [.int .i64 kind],eBlk (w.heap.size + 1) 35 [.slice B1 bl.length d1,.int .i64 k,.slice B2 ms.length d2,.slice B3 es.length d3],eBlk w.heap.size 35 [.slice A1 al.length c1,.int .i64 n,.slice A2 mr.length c2,.slice A3 ed.length c3]] w42) := S41.out.newMach hb hz.1 hz.2.1 hz.2.2 HM.out
      clear HM hb hz
      refine hK.out _ _ ?_ (fun hHeld => ?_)
      · exact S42.out.pick [5,6] (by decide)
      clear hK K
      try simp only [sx]
      refine rdH 6 rfl fun K hK => ?_
      have sc0 := ckC S42.out 3 rfl 0 rfl
      have sf0 := BlkAt.free (S42.out.get 3 rfl) 0
      try dsimp only [Au.val] at *
      go_simp
      obtain ⟨w43,hw43⟩ : ∃ v,v = (w42.setCell ⟨nnx,0,none⟩ (.pointer (some ⟨bx,0,none⟩))) := ⟨_,rfl⟩
      rw [← hw43]
      have S43 : Hid (Sep w.heap.size w [eMach by_ m3 m4 (⟨bl,k,ms,es⟩ : Au),eMach bx m1 m2 (⟨al,n,mr,ed⟩ : Au),eBlk nny 71 [.pointer none],eBlk nnx 71 [.pointer (some ⟨bx,0,none⟩)],eBlk (w.heap.size + 2) 3 [.int .i64 kind],eBlk (w.heap.size + 1) 35 [.slice B1 bl.length d1,.int .i64 k,.slice B2 ms.length d2,.slice B3 es.length d3],eBlk w.heap.size 35 [.slice A1 al.length c1,.int .i64 n,.slice A2 mr.length c2,.slice A3 ed.length c3]] w43) := by rw [hw43]; exact (S42.out.set 3 rfl 0 (.pointer (some ⟨bx,0,none⟩)))
      clear hw43 sc0 sf0
      refine hK.out _ _ ?_ (fun hHeld => ?_)
      · exact S43.out.pick [5,6] (by decide)
      clear hK K
      try simp only [sx]
      refine rdH 7 rfl fun K hK => ?_
      have sc0 := ckC S43.out 2 rfl 0 rfl
      have sf0 := BlkAt.free (S43.out.get 2 rfl) 0
      try dsimp only [Au.val] at *
      go_simp
      obtain ⟨w44,hw44⟩ : ∃ v,v = (w43.setCell ⟨nny,0,none⟩ (.pointer (some ⟨by_,0,none⟩))) := ⟨_,rfl⟩
      rw [← hw44]
      have S44 : Hid (Sep w.heap.size w [eMach by_ m3 m4 (⟨bl,k,ms,es⟩ : Au),eMach bx m1 m2 (⟨al,n,mr,ed⟩ : Au),eBlk nny 71 [.pointer (some ⟨by_,0,none⟩)],eBlk nnx 71 [.pointer (some ⟨bx,0,none⟩)],eBlk (w.heap.size + 2) 3 [.int .i64 kind],eBlk (w.heap.size + 1) 35 [.slice B1 bl.length d1,.int .i64 k,.slice B2 ms.length d2,.slice B3 es.length d3],eBlk w.heap.size 35 [.slice A1 al.length c1,.int .i64 n,.slice A2 mr.length c2,.slice A3 ed.length c3]] w44) := by rw [hw44]; exact (S43.out.set 2 rfl 0 (.pointer (some ⟨by_,0,none⟩)))
      clear hw44 sc0 sf0
      refine hK.out _ _ ?_ (fun hHeld => ?_)
      · exact S44.out.pick [5,6] (by decide)
      clear hK K
      try simp only [sx]
      refine wpAnyH_done (by kernel_rfl) ?_ _
      go_wp2_with fail
      go_meet
      exact ⟨nnx,nny,bx,by_,m1,m2,m3,m4,rfl,rfl,S44.out.pick [3,2,1,0,4,5,6] (by decide)⟩
  · skip
    go_simp
    obtain ⟨nny,hnny⟩ : ∃ n,n = w1.heap.size := ⟨_,rfl⟩
    obtain ⟨w45,hw45⟩ : ∃ v,v = w1.alloc (.cells #[.pointer none] 71) := ⟨_,rfl⟩
    rw [← hw45,← hnny]
    have S45 := ckA S1.out hw45 hnny
    skip
    clear hw45 hnny
    refine hK.out _ _ ?_ (fun hHeld => ?_)
    · exact S45.out.pick [2,3] (by decide)
    clear hK K
    try simp only [sx]
    refine wpAnyH_ready (rs := [1,4]) (by kernel_rfl) (by simp) ?_
    refine AllReadyH.cons rfl (fun K hK => ?_) (AllReadyH.cons rfl (fun K hK => ?_) AllReadyH.nil)
    · skip
      go_simp
      refine (open_c ⟨al,n,mr,ed⟩ ⟨A1,c1,A2,c2,A3,c3⟩ w45 (HA.out.below S45.out.below)).mono ?_
      rintro e w46 ⟨bx,m1,m2,rfl,hz,HM,hb⟩
      have S46 : Hid (Sep w.heap.size w [eMach bx m1 m2 (⟨al,n,mr,ed⟩ : Au),eBlk nny 71 [.pointer none],eBlk (w.heap.size + 2) 3 [.int .i64 kind],eBlk (w.heap.size + 1) 35 [.slice B1 bl.length d1,.int .i64 k,.slice B2 ms.length d2,.slice B3 es.length d3],eBlk w.heap.size 35 [.slice A1 al.length c1,.int .i64 n,.slice A2 mr.length c2,.slice A3 ed.length c3]] w46) := S45.out.newMach hb hz.1 hz.2.1 hz.2.2 HM.out
      clear HM hb hz
      refine hK.out _ _ ?_ (fun hHeld => ?_)
      · exact S46.out.pick [3,4] (by decide)
      clear hK K
      try simp only [sx]
      refine wpAnyH_ready (rs := [3,4]) (by kernel_rfl) (by simp) ?_
      refine AllReadyH.cons rfl (fun K hK => ?_) (AllReadyH.cons rfl (fun K hK => ?_) AllReadyH.nil)
      · skip
        go_simp
        refine (open_c ⟨bl,k,ms,es⟩ ⟨B1,d1,B2,d2,B3,d3⟩ w46 (HB.out.below S46.out.below)).mono ?_
        rintro e w47 ⟨by_,m3,m4,rfl,hz,HM,hb⟩
        have S47 : Hid (Sep w.heap.size w [eMach by_ m3 m4 (⟨bl,k,ms,es⟩ : Au),eMach bx m1 m2 (⟨al,n,mr,ed⟩ : Au),eBlk nny 71 [.pointer none],eBlk (w.heap.size + 2) 3 [.int .i64 kind],eBlk (w.heap.size + 1) 35 [.slice B1 bl.length d1,.int .i64 k,.slice B2 ms.length d2,.slice B3 es.length d3],eBlk w.heap.size 35 [.slice A1 al.length c1,.int .i64 n,.slice A2 mr.length c2,.slice A3 ed.length c3]] w47) := S46.out.newMach hb hz.1 hz.2.1 hz.2.2 HM.out
        clear HM hb hz
        refine hK.out _ _ ?_ (fun hHeld => ?_)
        · exact S47.out.pick [4,5] (by decide)
        clear hK K
        try simp only [sx]
        refine rdH 4 rfl fun K hK => ?_
        go_simp
        obtain ⟨nnx,hnnx⟩ : ∃ n,n = w47.heap.size := ⟨_,rfl⟩
        obtain ⟨w48,hw48⟩ : ∃ v,v = w47.alloc (.cells #[.pointer none] 71) := ⟨_,rfl⟩
        rw [← hw48,← hnnx]
        have S48 := ckA S47.out hw48 hnnx
        skip
        clear hw48 hnnx
        refine hK.out _ _ ?_ (fun hHeld => ?_)
        · exact S48.out.pick [5,6] (by decide)
        clear hK K
        try simp only [sx]
        refine rdH 6 rfl fun K hK => ?_
        have sc0 := ckC S48.out 0 rfl 0 rfl
        have sf0 := BlkAt.free (S48.out.get 0 rfl) 0
        try dsimp only [Au.val] at *
        go_simp
        obtain ⟨w49,hw49⟩ : ∃ v,v = (w48.setCell ⟨nnx,0,none⟩ (.pointer (some ⟨bx,0,none⟩))) := ⟨_,rfl⟩
        rw [← hw49]
        have S49 : Hid (Sep w.heap.size w [eBlk nnx 71 [.pointer (some ⟨bx,0,none⟩)],eMach by_ m3 m4 (⟨bl,k,ms,es⟩ : Au),eMach bx m1 m2 (⟨al,n,mr,ed⟩ : Au),eBlk nny 71 [.pointer none],eBlk (w.heap.size + 2) 3 [.int .i64 kind],eBlk (w.heap.size + 1) 35 [.slice B1 bl.length d1,.int .i64 k,.slice B2 ms.length d2,.slice B3 es.length d3],eBlk w.heap.size 35 [.slice A1 al.length c1,.int .i64 n,.slice A2 mr.length c2,.slice A3 ed.length c3]] w49) := by rw [hw49]; exact (S48.out.set 0 rfl 0 (.pointer (some ⟨bx,0,none⟩)))
        clear hw49 sc0 sf0
        refine hK.out _ _ ?_ (fun hHeld => ?_)
        · exact S49.out.pick [5,6] (by decide)
        clear hK K
        try simp only [sx]
        refine rdH 7 rfl fun K hK => ?_
        have sc0 := ckC S49.out 3 rfl 0 rfl
        have sf0 := BlkAt.free (S49.out.get 3 rfl) 0
        try dsimp only [Au.val] at *
        go_simp
        obtain ⟨w50,hw50⟩ : ∃ v,v = (w49.setCell ⟨nny,0,none⟩ (.pointer (some ⟨by_,0,none⟩))) := ⟨_,rfl⟩
        rw [← hw50]
        have S50 : Hid (Sep w.heap.size w [eBlk nnx 71 [.pointer (some ⟨bx,0,none⟩)],eMach by_ m3 m4 (⟨bl,k,ms,es⟩ : Au),eMach bx m1 m2 (⟨al,n,mr,ed⟩ : Au),eBlk nny 71 [.pointer (some ⟨by_,0,none⟩)],eBlk (w.heap.size + 2) 3 [.int .i64 kind],eBlk (w.heap.size + 1) 35 [.slice B1 bl.length d1,.int .i64 k,.slice B2 ms.length d2,.slice B3 es.length d3],eBlk w.heap.size 35 [.slice A1 al.length c1,.int .i64 n,.slice A2 mr.length c2,.slice A3 ed.length c3]] w50) := by rw [hw50]; exact (S49.out.set 3 rfl 0 (.pointer (some ⟨by_,0,none⟩)))
        clear hw50 sc0 sf0
        refine hK.out _ _ ?_ (fun hHeld => ?_)
        · exact S50.out.pick [5,6] (by decide)
        clear hK K
        try simp only [sx]
        refine wpAnyH_done (by kernel_rfl) ?_ _
        go_wp2_with fail
        go_meet
        exact ⟨nnx,nny,bx,by_,m1,m2,m3,m4,rfl,rfl,S50.out.pick [0,3,2,1,4,5,6] (by decide)⟩
      · skip
        go_simp
        obtain ⟨nnx,hnnx⟩ : ∃ n,n = w46.heap.size := ⟨_,rfl⟩
        obtain ⟨w51,hw51⟩ : ∃ v,v = w46.alloc (.cells #[.pointer none] 71) := ⟨_,rfl⟩
        rw [← hw51,← hnnx]
        have S51 := ckA S46.out hw51 hnnx
        skip
        clear hw51 hnnx
        refine hK.out _ _ ?_ (fun hHeld => ?_)
        · exact S51.out.pick [4,5] (by decide)
        clear hK K
        try simp only [sx]
        refine rdH 3 rfl fun K hK => ?_
        go_simp
        refine (open_c ⟨bl,k,ms,es⟩ ⟨B1,d1,B2,d2,B3,d3⟩ w51 (HB.out.below S51.out.below)).mono ?_
        rintro e w52 ⟨by_,m3,m4,rfl,hz,HM,hb⟩
        have S52 : Hid (Sep w.heap.size w [eMach by_ m3 m4 (⟨bl,k,ms,es⟩ : Au),eBlk nnx 71 [.pointer none],eMach bx m1 m2 (⟨al,n,mr,ed⟩ : Au),eBlk nny 71 [.pointer none],eBlk (w.heap.size + 2) 3 [.int .i64 kind],eBlk (w.heap.size + 1) 35 [.slice B1 bl.length d1,.int .i64 k,.slice B2 ms.length d2,.slice B3 es.length d3],eBlk w.heap.size 35 [.slice A1 al.length c1,.int .i64 n,.slice A2 mr.length c2,.slice A3 ed.length c3]] w52) := S51.out.newMach hb hz.1 hz.2.1 hz.2.2 HM.out
        clear HM hb hz
        refine hK.out _ _ ?_ (fun hHeld => ?_)
        · exact S52.out.pick [5,6] (by decide)
        clear hK K
        try simp only [sx]
        refine rdH 6 rfl fun K hK => ?_
        have sc0 := ckC S52.out 1 rfl 0 rfl
        have sf0 := BlkAt.free (S52.out.get 1 rfl) 0
        try dsimp only [Au.val] at *
        go_simp
        obtain ⟨w53,hw53⟩ : ∃ v,v = (w52.setCell ⟨nnx,0,none⟩ (.pointer (some ⟨bx,0,none⟩))) := ⟨_,rfl⟩
        rw [← hw53]
        have S53 : Hid (Sep w.heap.size w [eMach by_ m3 m4 (⟨bl,k,ms,es⟩ : Au),eBlk nnx 71 [.pointer (some ⟨bx,0,none⟩)],eMach bx m1 m2 (⟨al,n,mr,ed⟩ : Au),eBlk nny 71 [.pointer none],eBlk (w.heap.size + 2) 3 [.int .i64 kind],eBlk (w.heap.size + 1) 35 [.slice B1 bl.length d1,.int .i64 k,.slice B2 ms.length d2,.slice B3 es.length d3],eBlk w.heap.size 35 [.slice A1 al.length c1,.int .i64 n,.slice A2 mr.length c2,.slice A3 ed.length c3]] w53) := by rw [hw53]; exact (S52.out.set 1 rfl 0 (.pointer (some ⟨bx,0,none⟩)))
        clear hw53 sc0 sf0
        refine hK.out _ _ ?_ (fun hHeld => ?_)
        · exact S53.out.pick [5,6] (by decide)
        clear hK K
        try simp only [sx]
        refine rdH 7 rfl fun K hK => ?_
        have sc0 := ckC S53.out 3 rfl 0 rfl
        have sf0 := BlkAt.free (S53.out.get 3 rfl) 0
        try dsimp only [Au.val] at *
        go_simp
        obtain ⟨w54,hw54⟩ : ∃ v,v = (w53.setCell ⟨nny,0,none⟩ (.pointer (some ⟨by_,0,none⟩))) := ⟨_,rfl⟩
        rw [← hw54]
        have S54 : Hid (Sep w.heap.size w [eMach by_ m3 m4 (⟨bl,k,ms,es⟩ : Au),eBlk nnx 71 [.pointer (some ⟨bx,0,none⟩)],eMach bx m1 m2 (⟨al,n,mr,ed⟩ : Au),eBlk nny 71 [.pointer (some ⟨by_,0,none⟩)],eBlk (w.heap.size + 2) 3 [.int .i64 kind],eBlk (w.heap.size + 1) 35 [.slice B1 bl.length d1,.int .i64 k,.slice B2 ms.length d2,.slice B3 es.length d3],eBlk w.heap.size 35 [.slice A1 al.length c1,.int .i64 n,.slice A2 mr.length c2,.slice A3 ed.length c3]] w54) := by rw [hw54]; exact (S53.out.set 3 rfl 0 (.pointer (some ⟨by_,0,none⟩)))
        clear hw54 sc0 sf0
        refine hK.out _ _ ?_ (fun hHeld => ?_)
        · exact S54.out.pick [5,6] (by decide)
        clear hK K
        try simp only [sx]
        refine wpAnyH_done (by kernel_rfl) ?_ _
        go_wp2_with fail
        go_meet
        exact ⟨nnx,nny,bx,by_,m1,m2,m3,m4,rfl,rfl,S54.out.pick [1,3,2,0,4,5,6] (by decide)⟩
    · skip
      go_simp
      obtain ⟨nnx,hnnx⟩ : ∃ n,n = w45.heap.size := ⟨_,rfl⟩
      obtain ⟨w55,hw55⟩ : ∃ v,v = w45.alloc (.cells #[.pointer none] 71) := ⟨_,rfl⟩
      rw [← hw55,← hnnx]
      have S55 := ckA S45.out hw55 hnnx
      skip
      clear hw55 hnnx
      refine hK.out _ _ ?_ (fun hHeld => ?_)
      · exact S55.out.pick [3,4] (by decide)
      clear hK K
      try simp only [sx]
      refine rdH 1 rfl fun K hK => ?_
      go_simp
      refine (open_c ⟨al,n,mr,ed⟩ ⟨A1,c1,A2,c2,A3,c3⟩ w55 (HA.out.below S55.out.below)).mono ?_
      rintro e w56 ⟨bx,m1,m2,rfl,hz,HM,hb⟩
      have S56 : Hid (Sep w.heap.size w [eMach bx m1 m2 (⟨al,n,mr,ed⟩ : Au),eBlk nnx 71 [.pointer none],eBlk nny 71 [.pointer none],eBlk (w.heap.size + 2) 3 [.int .i64 kind],eBlk (w.heap.size + 1) 35 [.slice B1 bl.length d1,.int .i64 k,.slice B2 ms.length d2,.slice B3 es.length d3],eBlk w.heap.size 35 [.slice A1 al.length c1,.int .i64 n,.slice A2 mr.length c2,.slice A3 ed.length c3]] w56) := S55.out.newMach hb hz.1 hz.2.1 hz.2.2 HM.out
      clear HM hb hz
      refine hK.out _ _ ?_ (fun hHeld => ?_)
      · exact S56.out.pick [4,5] (by decide)
      clear hK K
      try simp only [sx]
      refine rdH 3 rfl fun K hK => ?_
      go_simp
      refine (open_c ⟨bl,k,ms,es⟩ ⟨B1,d1,B2,d2,B3,d3⟩ w56 (HB.out.below S56.out.below)).mono ?_
      rintro e w57 ⟨by_,m3,m4,rfl,hz,HM,hb⟩
      have S57 : Hid (Sep w.heap.size w [eMach by_ m3 m4 (⟨bl,k,ms,es⟩ : Au),eMach bx m1 m2 (⟨al,n,mr,ed⟩ : Au),eBlk nnx 71 [.pointer none],eBlk nny 71 [.pointer none],eBlk (w.heap.size + 2) 3 [.int .i64 kind],eBlk (w.heap.size + 1) 35 [.slice B1 bl.length d1,.int .i64 k,.slice B2 ms.length d2,.slice B3 es.length d3],eBlk w.heap.size 35 [.slice A1 al.length c1,.int .i64 n,.slice A2 mr.length c2,.slice A3 ed.length c3]] w57) := S56.out.newMach hb hz.1 hz.2.1 hz.2.2 HM.out
      clear HM hb hz
      refine hK.out _ _ ?_ (fun hHeld => ?_)
      · exact S57.out.pick [5,6] (by decide)
      clear hK K
      try simp only [sx]
      refine rdH 6 rfl fun K hK => ?_
      have sc0 := ckC S57.out 2 rfl 0 rfl
      have sf0 := BlkAt.free (S57.out.get 2 rfl) 0
      try dsimp only [Au.val] at *
      go_simp
      obtain ⟨w58,hw58⟩ : ∃ v,v = (w57.setCell ⟨nnx,0,none⟩ (.pointer (some ⟨bx,0,none⟩))) := ⟨_,rfl⟩
      rw [← hw58]
      have S58 : Hid (Sep w.heap.size w [eMach by_ m3 m4 (⟨bl,k,ms,es⟩ : Au),eMach bx m1 m2 (⟨al,n,mr,ed⟩ : Au),eBlk nnx 71 [.pointer (some ⟨bx,0,none⟩)],eBlk nny 71 [.pointer none],eBlk (w.heap.size + 2) 3 [.int .i64 kind],eBlk (w.heap.size + 1) 35 [.slice B1 bl.length d1,.int .i64 k,.slice B2 ms.length d2,.slice B3 es.length d3],eBlk w.heap.size 35 [.slice A1 al.length c1,.int .i64 n,.slice A2 mr.length c2,.slice A3 ed.length c3]] w58) := by rw [hw58]; exact (S57.out.set 2 rfl 0 (.pointer (some ⟨bx,0,none⟩)))
      clear hw58 sc0 sf0
      refine hK.out _ _ ?_ (fun hHeld => ?_)
      · exact S58.out.pick [5,6] (by decide)
      clear hK K
      try simp only [sx]
      refine rdH 7 rfl fun K hK => ?_
      have sc0 := ckC S58.out 3 rfl 0 rfl
      have sf0 := BlkAt.free (S58.out.get 3 rfl) 0
      try dsimp only [Au.val] at *
      go_simp
      obtain ⟨w59,hw59⟩ : ∃ v,v = (w58.setCell ⟨nny,0,none⟩ (.pointer (some ⟨by_,0,none⟩))) := ⟨_,rfl⟩
      rw [← hw59]
      have S59 : Hid (Sep w.heap.size w [eMach by_ m3 m4 (⟨bl,k,ms,es⟩ : Au),eMach bx m1 m2 (⟨al,n,mr,ed⟩ : Au),eBlk nnx 71 [.pointer (some ⟨bx,0,none⟩)],eBlk nny 71 [.pointer (some ⟨by_,0,none⟩)],eBlk (w.heap.size + 2) 3 [.int .i64 kind],eBlk (w.heap.size + 1) 35 [.slice B1 bl.length d1,.int .i64 k,.slice B2 ms.length d2,.slice B3 es.length d3],eBlk w.heap.size 35 [.slice A1 al.length c1,.int .i64 n,.slice A2 mr.length c2,.slice A3 ed.length c3]] w59) := by rw [hw59]; exact (S58.out.set 3 rfl 0 (.pointer (some ⟨by_,0,none⟩)))
      clear hw59 sc0 sf0
      refine hK.out _ _ ?_ (fun hHeld => ?_)
      · exact S59.out.pick [5,6] (by decide)
      clear hK K
      try simp only [sx]
      refine wpAnyH_done (by kernel_rfl) ?_ _
      go_wp2_with fail
      go_meet
      exact ⟨nnx,nny,bx,by_,m1,m2,m3,m4,rfl,rfl,S59.out.pick [2,3,1,0,4,5,6] (by decide)⟩
 case rest =>
  clear S0
  obtain ⟨nx,ny,bx,by_,m1,m2,m3,m4,rfl,rfl,S⟩ := hcut
  go_upto_region 5 with fail
  have S60 := Lib.hid S.out.drew
  refine wp_region_held_drew (S := (fun V => Sep w.heap.size w [eBlk nx 71 [.pointer (some ⟨bx,0,none⟩)],eBlk ny 71 [.pointer (some ⟨by_,0,none⟩)],eBlk (w.heap.size + 1) 35 [.slice B1 bl.length d1,.int .i64 k,.slice B2 ms.length d2,.slice B3 es.length d3],eBlk w.heap.size 35 [.slice A1 al.length c1,.int .i64 n,.slice A2 mr.length c2,.slice A3 ed.length c3]] V)) (by kernel_rfl) ?_ (fun hHeld => ?_)
  · exact S60.out.pick [0,1,5,6] (by decide)
  generalize hwz : wc.drew = w60 at *
  clear hwz
  refine tkP 0 rfl (v := ?_) hHeld ?_
  try simp only [sx]
  refine tkH 1 rfl (v := ?_) (by kernel_rfl) ?_ hHeld ?_
  rotate_left
  · intro V hSw
    have b0 := ckC hSw 3 rfl 0 rfl
    clear hSw
    first | (go_simp; done) | (go_simp; with_reducible rfl)
  try simp only [sx]
  refine tkP 2 rfl (v := ?_) hHeld ?_
  try simp only [sx]
  refine tkH 3 rfl (v := ?_) (by kernel_rfl) ?_ hHeld ?_
  rotate_left
  · intro V hSw
    have b0 := ckC hSw 2 rfl 0 rfl
    clear hSw
    first | (go_simp; done) | (go_simp; with_reducible rfl)
  try simp only [sx]
  refine tkH 5 rfl (v := ?_) (by kernel_rfl) ?_ hHeld ?_
  rotate_left
  · intro V hSw
    have b0 := ckC hSw 0 rfl 0 rfl
    clear hSw
    first | (go_simp; done) | (go_simp; with_reducible rfl)
  try simp only [sx]
  refine tkH 6 rfl (v := ?_) (by kernel_rfl) ?_ hHeld ?_
  rotate_left
  · intro V hSw
    have b0 := ckC hSw 1 rfl 0 rfl
    clear hSw
    first | (go_simp; done) | (go_simp; with_reducible rfl)
  try simp only [sx]
  refine tkP 7 rfl (v := ?_) hHeld ?_
  try simp only [sx]
  refine rdH 4 rfl fun K hK => ?_
  go_simp
  refine (union_c A1 B1 c1 d1 al bl w60 (HA.out.below S60.out.below).al (HB.out.below S60.out.below).al HCA.out.c1 HCB.out.c1 (by omega)).mono ?_
  rintro e w61 ⟨AU_,cU,rfl,O,hb⟩
  have S61 : Hid (Sep w.heap.size w [eInts (unionV al bl) (.slice AU_ (unionV al bl).length cU),eBlk nx 71 [.pointer (some ⟨bx,0,none⟩)],eBlk ny 71 [.pointer (some ⟨by_,0,none⟩)],eMach bx m1 m2 (⟨al,n,mr,ed⟩ : Au),eMach by_ m3 m4 (⟨bl,k,ms,es⟩ : Au),eBlk (w.heap.size + 2) 3 [.int .i64 kind],eBlk (w.heap.size + 1) 35 [.slice B1 bl.length d1,.int .i64 k,.slice B2 ms.length d2,.slice B3 es.length d3],eBlk w.heap.size 35 [.slice A1 al.length c1,.int .i64 n,.slice A2 mr.length c2,.slice A3 ed.length c3]] w61) := S60.out.newI O.out hb
  clear O hb
  refine hK.out _ _ ?_ (fun hHeld => ?_)
  · exact S61.out.pick [1,2,6,7] (by decide)
  clear hK K
  try simp only [sx]
  refine rdH 8 rfl fun K hK => ?_
  go_simp
  refine (search_c AU_ cU (unionV al bl) bx by_ (⟨al,n,mr,ed⟩ : Au) (⟨bl,k,ms,es⟩ : Au) 62 #[.pointer (some ⟨nx,0,none⟩),.pointer (some ⟨w.heap.size + 2,0,none⟩),.pointer (some ⟨ny,0,none⟩)] (fun args w => by rfl) (eqP (⟨al,n,mr,ed⟩ : Au) (⟨bl,k,ms,es⟩ : Au) kind) w61 (S61.out.ints 0 rfl) (by have := HUL.out; omega) HUI.out HRA.out HRB.out hN (Mach3.mach (Sep.get S61.out 3 rfl)) (Mach3.mach (Sep.get S61.out 4 rfl)) ?_ (by simp [eqP,inV])).mono ?_
  · intro V x y hb
    exact eq1_c nx (w.heap.size + 2) ny bx by_ (⟨al,n,mr,ed⟩ : Au) (⟨bl,k,ms,es⟩ : Au) kind x y V (old_cell hb (BlkAt.cell (S61.out.get 1 rfl) 0) (BlkAt.lt (S61.out.get 1 rfl))) (old_cell hb (BlkAt.cell (S61.out.get 5 rfl) 0) (BlkAt.lt (S61.out.get 5 rfl))) (old_cell hb (BlkAt.cell (S61.out.get 2 rfl) 0) (BlkAt.lt (S61.out.get 2 rfl))) (Nat.lt_of_lt_of_le (BlkAt.lt (S61.out.get 1 rfl)) hb.size) (Nat.lt_of_lt_of_le (BlkAt.lt (S61.out.get 5 rfl)) hb.size) (Nat.lt_of_lt_of_le (BlkAt.lt (S61.out.get 2 rfl)) hb.size) ((Mach3.mach (Sep.get S61.out 3 rfl)).below hb) ((Mach3.mach (Sep.get S61.out 4 rfl)).below hb)
  rintro e w62 ⟨AW,cW,l,f,rfl,HW,hb,HL⟩
  have S62 := Lib.hid (S61.out.next hb)
  clear hb
  refine hK.out _ _ ?_ (fun hHeld => ?_)
  · exact S62.out.pick [1,2,6,7] (by decide)
  clear hK K
  try simp only [sx]
  refine tkP 9 rfl (v := ?_) hHeld ?_
  try simp only [sx]
  refine tkP 10 rfl (v := ?_) hHeld ?_
  try simp only [sx]
  refine tkP 11 rfl (v := ?_) hHeld ?_
  try simp only [sx]
  refine tkP 12 rfl (v := ?_) hHeld ?_
  try simp only [sx]
  refine tkP 13 rfl (v := ?_) hHeld ?_
  try simp only [sx]
  refine wpAnyH_done (by kernel_rfl) ?_ _
  go_wp2_with fail
  refine bodyPost_ret (v := .tuple #[.slice AW l.length cW,.bool (!f),.int .i64 0]) (by simp [results,Tryd.results32,go_sem]) rfl ?_
  exact ⟨AW,cW,l,!f,rfl,HW.out,S62.out.below,eq_flip HL.out⟩
end Go.Proofs.YtkifgffhoenaoaaDoor
