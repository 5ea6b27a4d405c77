/-
  language.combine at right automata.
-/
import Derived.Test.YtkifgffhoenaoaaDoorBas01
import Derived.Test.YtkifgffhoenaoaaDoorBas16
set_option linter.unusedSimpArgs false
set_option linter.unusedVariables false
namespace Go.Proofs.YtkifgffhoenaoaaDoor
open Go.RowKit
set_option maxRecDepth 100000
def eMach (b m1 m2 : Nat) (a : Au) : Ent where
 foot := [b,m1,m2]
 ok w := Mach3 w b m1 m2 a
 lt w h g hg := by
  have := h.lts
  simp at hg
  rcases hg with rfl | rfl | rfl
  · exact this.1
  · exact this.2.1
  · exact this.2.2
 turn w w' h hg := by
  refine ⟨(hg b (by simp)).trans h.blk,?_,?_⟩
  · obtain ⟨l,c,k1,k2⟩ := h.f1
    exact ⟨l,c,(hg m1 (by simp)).trans k1,k2⟩
  · obtain ⟨l,c,k1,k2⟩ := h.f2
    exact ⟨l,c,(hg m2 (by simp)).trans k1,k2⟩
theorem Sep.newMach {n : Nat} {w0 w w' : World} {es : List Ent} (S : Sep n w0 es w) {b m1 m2 : Nat} {a : Au} (hb : Below w.heap.size w w') (h1 : w.heap.size ≤ b) (h2 : w.heap.size ≤ m1) (h3 : w.heap.size ≤ m2) (h : Mach3 w' b m1 m2 a) : Sep n w0 (eMach b m1 m2 a :: es) w' :=
 S.new1 hb (eMach b m1 m2 a) h (fun g hg => by simp [eMach] at hg; rcases hg with rfl | rfl | rfl <;> assumption)
theorem GivesEx.one {a b : Au} {al : List Int} {mkf : Int × Int → Bool} {w w' : World} {e : Ending} (h : GivesEx a b al mkf w e w') :
 ∃ m p' r,e = .returned (.tuple #[.agg #[.slice p'.A1 m.al.length p'.c1,.int .i64 m.n,.slice p'.A2 m.mr.length p'.c2,.slice p'.A3 m.ed.length p'.c3],.int .i64 r]) ∧ Hid (Sep w.heap.size w (eAu m p') w') ∧ Hid (Lens m) ∧ Hid ((r = 0 ∧ ∃ m0 fs,ExOk a b al mkf m m0 fs) ∨ (r = 3 ∧ m = ⟨[],0,[],[]⟩ ∧ ExNo a b al)) := by
 rcases h with ⟨m,p',m0,fs,rfl,h1,h2,h3⟩ | ⟨rfl,hb,h3⟩
 · exact ⟨m,p',0,rfl,h1,h2,.inl ⟨rfl,m0,fs,h3.out⟩⟩
 · refine ⟨⟨[],0,[],[]⟩,⟨none,0,none,0,none,0⟩,3,rfl,?_,⟨by simp,by simp,by simp⟩,.inr ⟨rfl,rfl,h3.out⟩⟩
   exact (((((Sep.here w).next hb).nilOwn Ed.cells 3 87).nilOwn encI 1 3).nilOwn encI 1 3)
def CoL (a b : Au) (ch : Bool → Bool → Bool) (u : List Int) : Prop := (∀ x,x ∈ u → x ∈ unionV a.al b.al) ∧ ch (decide (rn a u ∈ a.mr)) (decide (rn b u ∈ b.mr)) = true
theorem inV_two {a : Au} (ha : a.Right) (s : Int) : inV a s 2 = decide (s ∈ a.mr) := by
 unfold inV
 by_cases h : s ∈ a.mr
 · have := (ha.mem h).1
   simp [h,this]
 · simp [h]
def CoR (a b : Au) (ch : Bool → Bool → Bool) (m : Au) (r : Int) : Prop := (r = 0 ∧ IsMin m (CoL a b ch) ∧ m.al = unionV a.al b.al) ∨ (r = 3 ∧ m = ⟨[],0,[],[]⟩ ∧ ExNo a b (unionV a.al b.al))
theorem co_of {a b m : Au} {ch : Bool → Bool → Bool} {r : Int} (ha : a.Right) (hb : b.Right) (h : (r = 0 ∧ ∃ m0 fs,ExOk a b (unionV a.al b.al) (fun v => ch (inV a v.1 2) (inV b v.2 2)) m m0 fs) ∨ (r = 3 ∧ m = ⟨[],0,[],[]⟩ ∧ ExNo a b (unionV a.al b.al))) : CoR a b ch m r := by
 rcases h with ⟨h0,m0,fs,h1,h2,h3,h4,h5,h6⟩ | h
 · refine .inl ⟨h0,h5.congr fun u => ?_,h6⟩
   rw [Built.pairs (P := fun v => ch (inV a v.1 2) (inV b v.2 2) = true) ha hb (setOk_union ha.al hb.al).incr (fun v v' _ _ e => e) h2 (fun v hv => (h3 v hv).1) h4 u]
   simp only [inV_two ha,inV_two hb]
   rfl
 · exact .inr h
def GivesCo (a b : Au) (ch : Bool → Bool → Bool) (w : World) (e : Ending) (w' : World) : Prop := ∃ m p' r,e = .returned (.tuple #[m.val p',.int .i64 r]) ∧ Hid (Sep w.heap.size w (eAu m p') w') ∧ Hid (Lens m) ∧ Hid (CoR a b ch m r)
set_option maxHeartbeats 8000000 in
theorem combine_c (a b : Au) (p q : AuP) (fc : Nat) (lbc : Array Value) (ec : ∀ args w,(callFunc fc args).run Tryd.prog w = .ok (.enter fc args) w) (ch : Bool → Bool → Bool) (w : World) (htab : TabW w) (ha : a.Right) (hb : b.Right) (hpa : Caps a p) (hpb : Caps b q) (hA : Au.At w a p) (hB : Au.At w b q)
 (hch : ∀ p q V,Calls Tryd.prog fc (#[.bool p,.bool q] ++ lbc) V (Ret (.bool (ch p q)) V)) :
 Calls Tryd.prog 51 #[a.val p,b.val q,.func (.func fc) #[] lbc] w (GivesCo a b ch w) := by
 have HTAB := Lib.hid htab
 have HRA := Lib.hid ha
 have HRB := Lib.hid hb
 have HCA := Lib.hid hpa
 have HCB := Lib.hid hpb
 have HA := Lib.hid hA
 have HB := Lib.hid hB
 have HC := Lib.hid hch
 have la : a.al.length ≤ 32 := by simpa using ha.al.short
 have lb : b.al.length ≤ 32 := by simpa using hb.al.short
 obtain ⟨al,n,mr,ed⟩ := a
 obtain ⟨A1,c1,A2,c2,A3,c3⟩ := p
 obtain ⟨bl,k,ms,es⟩ := b
 obtain ⟨B1,d1,B2,d2,B3,d3⟩ := q
 dsimp only [Au.val] at la lb ⊢
 clear ha hb hpa hpb hA hB hch htab
 have EXP : Hid (∀ (W : World) {Es : List Ent},Sep w.heap.size w Es W → ∀ (AL : Option Addr) (cL : Nat),IntsAt W AL (unionV al bl) → ∀ {nx ny bx by_ m1 m2 m3 m4 : Nat} (i1 i2 i3 i4 i5 : Nat),Es[i1]? = some (eBlk nx 71 [.pointer (some ⟨bx,0,none⟩)]) → Es[i2]? = some (eBlk ny 71 [.pointer (some ⟨by_,0,none⟩)]) → Es[i3]? = some (eMach bx m1 m2 (⟨al,n,mr,ed⟩ : Au)) → Es[i4]? = some (eMach by_ m3 m4 (⟨bl,k,ms,es⟩ : Au)) → Es[i5]? = some (eBlk (w.heap.size + 2) 92 [.func (.func fc) #[] lbc]) →
  Calls Tryd.prog 74 #[.slice AL (unionV al bl).length cL,.agg #[.int .i64 (⟨al,n,mr,ed⟩ : Au).st,.int .i64 (⟨bl,k,ms,es⟩ : Au).st],.func (.func 75) #[] #[],.func (.func 77) #[] #[.pointer (some ⟨w.heap.size + 2,0,none⟩),.pointer (some ⟨nx,0,none⟩),.pointer (some ⟨ny,0,none⟩)],.func (.func 78) #[] #[.pointer (some ⟨nx,0,none⟩),.pointer (some ⟨ny,0,none⟩)]] W
   (GivesEx ⟨al,n,mr,ed⟩ ⟨bl,k,ms,es⟩ (unionV al bl) (fun v => ch (inV ⟨al,n,mr,ed⟩ v.1 2) (inV ⟨bl,k,ms,es⟩ v.2 2)) W)) := by
  intro W Es S AL cL hAL nx ny bx by_ m1 m2 m3 m4 i1 i2 i3 i4 i5 h1 h2 h3 h4 h5
  have zx := (S.get i1 h1).lt
  have zy := (S.get i2 h2).lt
  have zc := (S.get i5 h5).lt
  refine explore_c ⟨al,n,mr,ed⟩ ⟨bl,k,ms,es⟩ (unionV al bl) AL cL _ _ _ #[] _ _ _ W (fun _ _ => rfl) (fun _ _ => rfl) (fun _ _ => rfl) HRA.out HRB.out (setOk_union HRA.out.al HRB.out.al) hAL (fun V v hV hv => ?_) (fun V v hV hv => ?_) (fun V v e hV hv => ?_)
  · rw [Array.append_empty]
    have r1 := HRA.out.n1
    have r2 := HRB.out.n1
    exact textP_c v V ((HTAB.out.below S.below).below hV) (by rcases hv.1 with g | g <;> omega) (by rcases hv.2 with g | g <;> omega)
  · simp only [List.append_toArray,List.cons_append,List.nil_append]
    exact markP_c _ nx ny bx by_ _ _ fc lbc ec ch v V ((hV.cell (p := ⟨_,0,none⟩) zc).trans (BlkAt.cell (S.get i5 h5) 0)) ((hV.cell (p := ⟨nx,0,none⟩) zx).trans (BlkAt.cell (S.get i1 h1) 0)) ((hV.cell (p := ⟨ny,0,none⟩) zy).trans (BlkAt.cell (S.get i2 h2) 0)) (Nat.lt_of_lt_of_le zc hV.size) (Nat.lt_of_lt_of_le zx hV.size) (Nat.lt_of_lt_of_le zy hV.size) ((S.get i3 h3).mach.below hV) ((S.get i4 h4).mach.below hV) HC.out
  · simp only [List.append_toArray,List.cons_append,List.nil_append]
    exact nextP_c nx ny bx by_ _ _ v e V ((hV.cell (p := ⟨nx,0,none⟩) zx).trans (BlkAt.cell (S.get i1 h1) 0)) ((hV.cell (p := ⟨ny,0,none⟩) zy).trans (BlkAt.cell (S.get i2 h2) 0)) (Nat.lt_of_lt_of_le zx hV.size) (Nat.lt_of_lt_of_le zy hV.size) ((S.get i3 h3).mach.below hV) ((S.get i4 h4).mach.below hV)
 go_enter Tryd.func51,Tryd.ntmps51
 go_upto_region 1 with fail
 refine wp_world (fun W => Sep w.heap.size w [eBlk (w.heap.size + 3) 35 [.slice none 0 0,.int .i64 0,.slice none 0 0,.slice none 0 0],eBlk (w.heap.size + 2) 92 [.func (.func fc) #[] lbc],eBlk (w.heap.size + 1) 35 [.slice B1 bl.length d1,.int .i64 k,.slice B2 ms.length d2,.slice B3 es.length d3],eBlk w.heap.size 35 [.slice A1 al.length c1,.int .i64 n,.slice A2 mr.length c2,.slice A3 ed.length c3]] W) ?_ fun W S => ?_
 · exact ((((Sep.here w).alloc' _ [_,_,_,_] rfl rfl).alloc' _ [_,_,_,_] rfl (by simp)).alloc' _ [_] rfl (by simp)).alloc' _ [_,_,_,_] rfl (by simp)
 have S0 := Lib.hid S
 clear S
 have a0 := ckC S0.out 3 rfl 0 rfl
 have a1 := ckC S0.out 3 rfl 1 rfl
 have a2 := ckC S0.out 3 rfl 2 rfl
 have a3 := ckC S0.out 3 rfl 3 rfl
 have b0 := ckC S0.out 2 rfl 0 rfl
 have b1 := ckC S0.out 2 rfl 1 rfl
 have b2 := ckC S0.out 2 rfl 2 rfl
 have b3 := ckC S0.out 2 rfl 3 rfl
 go_wp2_with fail
 have CK := AuE.two 35 ⟨al,n,mr,ed⟩ ⟨bl,k,ms,es⟩ ⟨A1,c1,A2,c2,A3,c3⟩ ⟨B1,d1,B2,d2,B3,d3⟩ W (HA.out.below S0.out.below) (HB.out.below S0.out.below)
 refine (check_c (some ⟨W.heap.size,0,none⟩) 2 [⟨al,n,mr,ed⟩,⟨bl,k,ms,es⟩] 2 _ CK (by simp) (fun x hx => by simp at hx; rcases hx with rfl | rfl; exact HRA.out; exact HRB.out) (.inr rfl)).mono ?_
 rintro e w1 ⟨rfl,hb⟩
 have S1 : Hid (Sep w.heap.size w [eBlk (w.heap.size + 3) 35 [.slice none 0 0,.int .i64 0,.slice none 0 0,.slice none 0 0],eBlk (w.heap.size + 2) 92 [.func (.func fc) #[] lbc],eBlk (w.heap.size + 1) 35 [.slice B1 bl.length d1,.int .i64 k,.slice B2 ms.length d2,.slice B3 es.length d3],eBlk w.heap.size 35 [.slice A1 al.length c1,.int .i64 n,.slice A2 mr.length c2,.slice A3 ed.length c3]] w1) := (S0.out.next (Below.new W _)).next hb
 clear S0 hb CK a0 a1 a2 a3 b0 b1 b2 b3
 go_upto_region 4 with fail
 refine wp_world (fun W => Sep w.heap.size w [eBlk (w.heap.size + 3) 35 [.slice none 0 0,.int .i64 0,.slice none 0 0,.slice none 0 0],eBlk (w.heap.size + 2) 92 [.func (.func fc) #[] lbc],eBlk (w.heap.size + 1) 35 [.slice B1 bl.length d1,.int .i64 k,.slice B2 ms.length d2,.slice B3 es.length d3],eBlk w.heap.size 35 [.slice A1 al.length c1,.int .i64 n,.slice A2 mr.length c2,.slice A3 ed.length c3]] W) S1.out fun W2 S => ?_
 have S0 := Lib.hid S
 clear S S1
 go_cut [9,10] (fun v9 v10 wx => ∃ nx ny bx by_ m1 m2 m3 m4,v9 = .pointer (some ⟨nx,0,none⟩) ∧ v10 = .pointer (some ⟨ny,0,none⟩) ∧ Hid (Sep w.heap.size w [eBlk nx 71 [.pointer (some ⟨bx,0,none⟩)],eBlk ny 71 [.pointer (some ⟨by_,0,none⟩)],eMach bx m1 m2 (⟨al,n,mr,ed⟩ : Au),eMach by_ m3 m4 (⟨bl,k,ms,es⟩ : Au),eBlk (w.heap.size + 3) 35 [.slice none 0 0,.int .i64 0,.slice none 0 0,.slice none 0 0],eBlk (w.heap.size + 2) 92 [.func (.func fc) #[] lbc],eBlk (w.heap.size + 1) 35 [.slice B1 bl.length d1,.int .i64 k,.slice B2 ms.length d2,.slice B3 es.length d3],eBlk w.heap.size 35 [.slice A1 al.length c1,.int .i64 n,.slice A2 mr.length c2,.slice A3 ed.length c3]] wx))
 case first =>
  have S1 := Lib.hid S0.out.drew
  refine wp_region_held_drew (S := (fun V => Sep w.heap.size w [eBlk (w.heap.size + 1) 35 [.slice B1 bl.length d1,.int .i64 k,.slice B2 ms.length d2,.slice B3 es.length d3],eBlk w.heap.size 35 [.slice A1 al.length c1,.int .i64 n,.slice A2 mr.length c2,.slice A3 ed.length c3]] V)) (by kernel_rfl) ?_ (fun hHeld => ?_)
  · exact S1.out.pick [2,3] (by decide)
  generalize hwz : W2.drew = w1 at *
  clear hwz
  refine tkH 0 rfl (v := ?_) (by kernel_rfl) ?_ hHeld ?_
  rotate_left
  · intro V hSw
    have b0 := ckC hSw 1 rfl 0 rfl
    have b1 := ckC hSw 1 rfl 1 rfl
    have b2 := ckC hSw 1 rfl 2 rfl
    have b3 := ckC hSw 1 rfl 3 rfl
    clear hSw
    first | (go_simp; done) | (go_simp; with_reducible rfl)
  try simp only [sx]
  refine tkH 2 rfl (v := ?_) (by kernel_rfl) ?_ hHeld ?_
  rotate_left
  · intro V hSw
    have b0 := ckC hSw 0 rfl 0 rfl
    have b1 := ckC hSw 0 rfl 1 rfl
    have b2 := ckC hSw 0 rfl 2 rfl
    have b3 := ckC hSw 0 rfl 3 rfl
    clear hSw
    first | (go_simp; done) | (go_simp; with_reducible rfl)
  try simp only [sx]
  refine wpAnyH_ready (rs := [1,4,5]) (by kernel_rfl) (by simp) ?_
  refine AllReadyH.cons rfl (fun K hK => ?_) (AllReadyH.cons rfl (fun K hK => ?_) (AllReadyH.cons rfl (fun K hK => ?_) AllReadyH.nil))
  · skip
    go_simp
    refine (open_c ⟨al,n,mr,ed⟩ ⟨A1,c1,A2,c2,A3,c3⟩ w1 (HA.out.below S1.out.below)).mono ?_
    rintro e w2 ⟨bx,m1,m2,rfl,hz,HM,hb⟩
    have S2 : Hid (Sep w.heap.size w [eMach bx m1 m2 (⟨al,n,mr,ed⟩ : Au),eBlk (w.heap.size + 3) 35 [.slice none 0 0,.int .i64 0,.slice none 0 0,.slice none 0 0],eBlk (w.heap.size + 2) 92 [.func (.func fc) #[] lbc],eBlk (w.heap.size + 1) 35 [.slice B1 bl.length d1,.int .i64 k,.slice B2 ms.length d2,.slice B3 es.length d3],eBlk w.heap.size 35 [.slice A1 al.length c1,.int .i64 n,.slice A2 mr.length c2,.slice A3 ed.length c3]] w2) := S1.out.newMach hb hz.1 hz.2.1 hz.2.2 HM.out
    clear HM hb hz
    refine hK.out _ _ ?_ (fun hHeld => ?_)
    · exact S2.out.pick [3,4] (by decide)
    clear hK K
    try simp only [sx]
    refine wpAnyH_ready (rs := [3,4,5]) (by kernel_rfl) (by simp) ?_
    refine AllReadyH.cons rfl (fun K hK => ?_) (AllReadyH.cons rfl (fun K hK => ?_) (AllReadyH.cons rfl (fun K hK => ?_) AllReadyH.nil))
    · skip
      go_simp
      refine (open_c ⟨bl,k,ms,es⟩ ⟨B1,d1,B2,d2,B3,d3⟩ w2 (HB.out.below S2.out.below)).mono ?_
      rintro e w3 ⟨by_,m3,m4,rfl,hz,HM,hb⟩
      have S3 : Hid (Sep w.heap.size w [eMach by_ m3 m4 (⟨bl,k,ms,es⟩ : Au),eMach bx m1 m2 (⟨al,n,mr,ed⟩ : Au),eBlk (w.heap.size + 3) 35 [.slice none 0 0,.int .i64 0,.slice none 0 0,.slice none 0 0],eBlk (w.heap.size + 2) 92 [.func (.func fc) #[] lbc],eBlk (w.heap.size + 1) 35 [.slice B1 bl.length d1,.int .i64 k,.slice B2 ms.length d2,.slice B3 es.length d3],eBlk w.heap.size 35 [.slice A1 al.length c1,.int .i64 n,.slice A2 mr.length c2,.slice A3 ed.length c3]] w3) := S2.out.newMach hb hz.1 hz.2.1 hz.2.2 HM.out
      clear HM hb hz
      refine hK.out _ _ ?_ (fun hHeld => ?_)
      · exact S3.out.pick [4,5] (by decide)
      clear hK K
      try simp only [sx]
      refine wpAnyH_ready (rs := [4,5]) (by kernel_rfl) (by simp) ?_
      refine AllReadyH.cons rfl (fun K hK => ?_) (AllReadyH.cons rfl (fun K hK => ?_) AllReadyH.nil)
      · skip
        go_simp
        obtain ⟨nnx,hnnx⟩ : ∃ n,n = w3.heap.size := ⟨_,rfl⟩
        obtain ⟨w4,hw4⟩ : ∃ v,v = w3.alloc (.cells #[.pointer none] 71) := ⟨_,rfl⟩
        rw [← hw4,← hnnx]
        have S4 := ckA S3.out hw4 hnnx
        skip
        clear hw4 hnnx
        refine hK.out _ _ ?_ (fun hHeld => ?_)
        · exact S4.out.pick [5,6] (by decide)
        clear hK K
        try simp only [sx]
        refine rdH 5 rfl fun K hK => ?_
        go_simp
        obtain ⟨nny,hnny⟩ : ∃ n,n = w4.heap.size := ⟨_,rfl⟩
        obtain ⟨w5,hw5⟩ : ∃ v,v = w4.alloc (.cells #[.pointer none] 71) := ⟨_,rfl⟩
        rw [← hw5,← hnny]
        have S5 := ckA S4.out hw5 hnny
        skip
        clear hw5 hnny
        refine hK.out _ _ ?_ (fun hHeld => ?_)
        · exact S5.out.pick [6,7] (by decide)
        clear hK K
        try simp only [sx]
        refine rdH 6 rfl fun K hK => ?_
        have sc0 := ckC S5.out 1 rfl 0 rfl
        have sf0 := BlkAt.free (S5.out.get 1 rfl) 0
        try dsimp only [Au.val] at *
        go_simp
        obtain ⟨w6,hw6⟩ : ∃ v,v = (w5.setCell ⟨nnx,0,none⟩ (.pointer (some ⟨bx,0,none⟩))) := ⟨_,rfl⟩
        rw [← hw6]
        have S6 : Hid (Sep w.heap.size w [eBlk nny 71 [.pointer none],eBlk nnx 71 [.pointer (some ⟨bx,0,none⟩)],eMach by_ m3 m4 (⟨bl,k,ms,es⟩ : Au),eMach bx m1 m2 (⟨al,n,mr,ed⟩ : Au),eBlk (w.heap.size + 3) 35 [.slice none 0 0,.int .i64 0,.slice none 0 0,.slice none 0 0],eBlk (w.heap.size + 2) 92 [.func (.func fc) #[] lbc],eBlk (w.heap.size + 1) 35 [.slice B1 bl.length d1,.int .i64 k,.slice B2 ms.length d2,.slice B3 es.length d3],eBlk w.heap.size 35 [.slice A1 al.length c1,.int .i64 n,.slice A2 mr.length c2,.slice A3 ed.length c3]] w6) := by rw [hw6]; exact (S5.out.set 1 rfl 0 (.pointer (some ⟨bx,0,none⟩)))
        clear hw6 sc0 sf0
        refine hK.out _ _ ?_ (fun hHeld => ?_)
        · exact S6.out.pick [6,7] (by decide)
        clear hK K
        try simp only [sx]
        refine rdH 7 rfl fun K hK => ?_
        have sc0 := ckC S6.out 0 rfl 0 rfl
        have sf0 := BlkAt.free (S6.out.get 0 rfl) 0
        try dsimp only [Au.val] at *
        go_simp
        obtain ⟨w7,hw7⟩ : ∃ v,v = (w6.setCell ⟨nny,0,none⟩ (.pointer (some ⟨by_,0,none⟩))) := ⟨_,rfl⟩
        rw [← hw7]
        have S7 : Hid (Sep w.heap.size w [eBlk nny 71 [.pointer (some ⟨by_,0,none⟩)],eBlk nnx 71 [.pointer (some ⟨bx,0,none⟩)],eMach by_ m3 m4 (⟨bl,k,ms,es⟩ : Au),eMach bx m1 m2 (⟨al,n,mr,ed⟩ : Au),eBlk (w.heap.size + 3) 35 [.slice none 0 0,.int .i64 0,.slice none 0 0,.slice none 0 0],eBlk (w.heap.size + 2) 92 [.func (.func fc) #[] lbc],eBlk (w.heap.size + 1) 35 [.slice B1 bl.length d1,.int .i64 k,.slice B2 ms.length d2,.slice B3 es.length d3],eBlk w.heap.size 35 [.slice A1 al.length c1,.int .i64 n,.slice A2 mr.length c2,.slice A3 ed.length c3]] w7) := by rw [hw7]; exact (S6.out.set 0 rfl 0 (.pointer (some ⟨by_,0,none⟩)))
        clear hw7 sc0 sf0
        refine hK.out _ _ ?_ (fun hHeld => ?_)
        · exact S7.out.pick [6,7] (by decide)
        clear hK K
        try simp only [sx]
        refine wpAnyH_done (by kernel_rfl) ?_ _
        go_wp2_with fail
        go_meet
        exact ⟨nnx,nny,bx,by_,m1,m2,m3,m4,rfl,rfl,S7.out.pick [1,0,3,2,4,5,6,7] (by decide)⟩
      · skip
        go_simp
        obtain ⟨nny,hnny⟩ : ∃ n,n = w3.heap.size := ⟨_,rfl⟩
        obtain ⟨w8,hw8⟩ : ∃ v,v = w3.alloc (.cells #[.pointer none] 71) := ⟨_,rfl⟩
        rw [← hw8,← hnny]
        have S8 := ckA S3.out hw8 hnny
        skip
        clear hw8 hnny
        refine hK.out _ _ ?_ (fun hHeld => ?_)
        · exact S8.out.pick [5,6] (by decide)
        clear hK K
        try simp only [sx]
        refine rdH 4 rfl fun K hK => ?_
        go_simp
        obtain ⟨nnx,hnnx⟩ : ∃ n,n = w8.heap.size := ⟨_,rfl⟩
        obtain ⟨w9,hw9⟩ : ∃ v,v = w8.alloc (.cells #[.pointer none] 71) := ⟨_,rfl⟩
        rw [← hw9,← hnnx]
        have S9 := ckA S8.out hw9 hnnx
        skip
        clear hw9 hnnx
        refine hK.out _ _ ?_ (fun hHeld => ?_)
        · exact S9.out.pick [6,7] (by decide)
        clear hK K
        try simp only [sx]
        refine rdH 6 rfl fun K hK => ?_
        have sc0 := ckC S9.out 0 rfl 0 rfl
        have sf0 := BlkAt.free (S9.out.get 0 rfl) 0
        try dsimp only [Au.val] at *
        go_simp
        obtain ⟨w10,hw10⟩ : ∃ v,v = (w9.setCell ⟨nnx,0,none⟩ (.pointer (some ⟨bx,0,none⟩))) := ⟨_,rfl⟩
        rw [← hw10]
        have S10 : Hid (Sep w.heap.size w [eBlk nnx 71 [.pointer (some ⟨bx,0,none⟩)],eBlk nny 71 [.pointer none],eMach by_ m3 m4 (⟨bl,k,ms,es⟩ : Au),eMach bx m1 m2 (⟨al,n,mr,ed⟩ : Au),eBlk (w.heap.size + 3) 35 [.slice none 0 0,.int .i64 0,.slice none 0 0,.slice none 0 0],eBlk (w.heap.size + 2) 92 [.func (.func fc) #[] lbc],eBlk (w.heap.size + 1) 35 [.slice B1 bl.length d1,.int .i64 k,.slice B2 ms.length d2,.slice B3 es.length d3],eBlk w.heap.size 35 [.slice A1 al.length c1,.int .i64 n,.slice A2 mr.length c2,.slice A3 ed.length c3]] w10) := by rw [hw10]; exact (S9.out.set 0 rfl 0 (.pointer (some ⟨bx,0,none⟩)))
        clear hw10 sc0 sf0
        refine hK.out _ _ ?_ (fun hHeld => ?_)
        · exact S10.out.pick [6,7] (by decide)
        clear hK K
        try simp only [sx]
        refine rdH 7 rfl fun K hK => ?_
        have sc0 := ckC S10.out 1 rfl 0 rfl
        have sf0 := BlkAt.free (S10.out.get 1 rfl) 0
        try dsimp only [Au.val] at *
        go_simp
        obtain ⟨w11,hw11⟩ : ∃ v,v = (w10.setCell ⟨nny,0,none⟩ (.pointer (some ⟨by_,0,none⟩))) := ⟨_,rfl⟩
        rw [← hw11]
        have S11 : Hid (Sep w.heap.size w [eBlk nnx 71 [.pointer (some ⟨bx,0,none⟩)],eBlk nny 71 [.pointer (some ⟨by_,0,none⟩)],eMach by_ m3 m4 (⟨bl,k,ms,es⟩ : Au),eMach bx m1 m2 (⟨al,n,mr,ed⟩ : Au),eBlk (w.heap.size + 3) 35 [.slice none 0 0,.int .i64 0,.slice none 0 0,.slice none 0 0],eBlk (w.heap.size + 2) 92 [.func (.func fc) #[] lbc],eBlk (w.heap.size + 1) 35 [.slice B1 bl.length d1,.int .i64 k,.slice B2 ms.length d2,.slice B3 es.length d3],eBlk w.heap.size 35 [.slice A1 al.length c1,.int .i64 n,.slice A2 mr.length c2,.slice A3 ed.length c3]] w11) := by rw [hw11]; exact (S10.out.set 1 rfl 0 (.pointer (some ⟨by_,0,none⟩)))
        clear hw11 sc0 sf0
        refine hK.out _ _ ?_ (fun hHeld => ?_)
        · exact S11.out.pick [6,7] (by decide)
        clear hK K
        try simp only [sx]
        refine wpAnyH_done (by kernel_rfl) ?_ _
        go_wp2_with fail
        go_meet
        exact ⟨nnx,nny,bx,by_,m1,m2,m3,m4,rfl,rfl,S11.out.pick [0,1,3,2,4,5,6,7] (by decide)⟩
    · skip
      go_simp
      obtain ⟨nnx,hnnx⟩ : ∃ n,n = w2.heap.size := ⟨_,rfl⟩
      obtain ⟨w12,hw12⟩ : ∃ v,v = w2.alloc (.cells #[.pointer none] 71) := ⟨_,rfl⟩
      rw [← hw12,← hnnx]
      have S12 := ckA S2.out hw12 hnnx
      skip
      clear hw12 hnnx
      refine hK.out _ _ ?_ (fun hHeld => ?_)
      · exact S12.out.pick [4,5] (by decide)
      clear hK K
      try simp only [sx]
      refine wpAnyH_ready (rs := [3,5]) (by kernel_rfl) (by simp) ?_
      refine AllReadyH.cons rfl (fun K hK => ?_) (AllReadyH.cons rfl (fun K hK => ?_) AllReadyH.nil)
      · skip
        go_simp
        refine (open_c ⟨bl,k,ms,es⟩ ⟨B1,d1,B2,d2,B3,d3⟩ w12 (HB.out.below S12.out.below)).mono ?_
        rintro e w13 ⟨by_,m3,m4,rfl,hz,HM,hb⟩
        have S13 : Hid (Sep w.heap.size w [eMach by_ m3 m4 (⟨bl,k,ms,es⟩ : Au),eBlk nnx 71 [.pointer none],eMach bx m1 m2 (⟨al,n,mr,ed⟩ : Au),eBlk (w.heap.size + 3) 35 [.slice none 0 0,.int .i64 0,.slice none 0 0,.slice none 0 0],eBlk (w.heap.size + 2) 92 [.func (.func fc) #[] lbc],eBlk (w.heap.size + 1) 35 [.slice B1 bl.length d1,.int .i64 k,.slice B2 ms.length d2,.slice B3 es.length d3],eBlk w.heap.size 35 [.slice A1 al.length c1,.int .i64 n,.slice A2 mr.length c2,.slice A3 ed.length c3]] w13) := S12.out.newMach hb hz.1 hz.2.1 hz.2.2 HM.out
        clear HM hb hz
        refine hK.out _ _ ?_ (fun hHeld => ?_)
        · exact S13.out.pick [5,6] (by decide)
        clear hK K
        try simp only [sx]
        refine rdH 5 rfl fun K hK => ?_
        go_simp
        obtain ⟨nny,hnny⟩ : ∃ n,n = w13.heap.size := ⟨_,rfl⟩
        obtain ⟨w14,hw14⟩ : ∃ v,v = w13.alloc (.cells #[.pointer none] 71) := ⟨_,rfl⟩
        rw [← hw14,← hnny]
        have S14 := ckA S13.out hw14 hnny
        skip
        clear hw14 hnny
        refine hK.out _ _ ?_ (fun hHeld => ?_)
        · exact S14.out.pick [6,7] (by decide)
        clear hK K
        try simp only [sx]
        refine rdH 6 rfl fun K hK => ?_
        have sc0 := ckC S14.out 2 rfl 0 rfl
        have sf0 := BlkAt.free (S14.out.get 2 rfl) 0
        try dsimp only [Au.val] at *
        go_simp
        obtain ⟨w15,hw15⟩ : ∃ v,v = (w14.setCell ⟨nnx,0,none⟩ (.pointer (some ⟨bx,0,none⟩))) := ⟨_,rfl⟩
        rw [← hw15]
        have S15 : Hid (Sep w.heap.size w [eBlk nny 71 [.pointer none],eMach by_ m3 m4 (⟨bl,k,ms,es⟩ : Au),eBlk nnx 71 [.pointer (some ⟨bx,0,none⟩)],eMach bx m1 m2 (⟨al,n,mr,ed⟩ : Au),eBlk (w.heap.size + 3) 35 [.slice none 0 0,.int .i64 0,.slice none 0 0,.slice none 0 0],eBlk (w.heap.size + 2) 92 [.func (.func fc) #[] lbc],eBlk (w.heap.size + 1) 35 [.slice B1 bl.length d1,.int .i64 k,.slice B2 ms.length d2,.slice B3 es.length d3],eBlk w.heap.size 35 [.slice A1 al.length c1,.int .i64 n,.slice A2 mr.length c2,.slice A3 ed.length c3]] w15) := by rw [hw15]; exact (S14.out.set 2 rfl 0 (.pointer (some ⟨bx,0,none⟩)))
        clear hw15 sc0 sf0
        refine hK.out _ _ ?_ (fun hHeld => ?_)
        · exact S15.out.pick [6,7] (by decide)
        clear hK K
        try simp only [sx]
        refine rdH 7 rfl fun K hK => ?_
        have sc0 := ckC S15.out 0 rfl 0 rfl
        have sf0 := BlkAt.free (S15.out.get 0 rfl) 0
        try dsimp only [Au.val] at *
        go_simp
        obtain ⟨w16,hw16⟩ : ∃ v,v = (w15.setCell ⟨nny,0,none⟩ (.pointer (some ⟨by_,0,none⟩))) := ⟨_,rfl⟩
        rw [← hw16]
        have S16 : Hid (Sep w.heap.size w [eBlk nny 71 [.pointer (some ⟨by_,0,none⟩)],eMach by_ m3 m4 (⟨bl,k,ms,es⟩ : Au),eBlk nnx 71 [.pointer (some ⟨bx,0,none⟩)],eMach bx m1 m2 (⟨al,n,mr,ed⟩ : Au),eBlk (w.heap.size + 3) 35 [.slice none 0 0,.int .i64 0,.slice none 0 0,.slice none 0 0],eBlk (w.heap.size + 2) 92 [.func (.func fc) #[] lbc],eBlk (w.heap.size + 1) 35 [.slice B1 bl.length d1,.int .i64 k,.slice B2 ms.length d2,.slice B3 es.length d3],eBlk w.heap.size 35 [.slice A1 al.length c1,.int .i64 n,.slice A2 mr.length c2,.slice A3 ed.length c3]] w16) := by rw [hw16]; exact (S15.out.set 0 rfl 0 (.pointer (some ⟨by_,0,none⟩)))
        clear hw16 sc0 sf0
        refine hK.out _ _ ?_ (fun hHeld => ?_)
        · exact S16.out.pick [6,7] (by decide)
        clear hK K
        try simp only [sx]
        refine wpAnyH_done (by kernel_rfl) ?_ _
        go_wp2_with fail
        go_meet
        exact ⟨nnx,nny,bx,by_,m1,m2,m3,m4,rfl,rfl,S16.out.pick [2,0,3,1,4,5,6,7] (by decide)⟩
      · skip
        go_simp
        obtain ⟨nny,hnny⟩ : ∃ n,n = w12.heap.size := ⟨_,rfl⟩
        obtain ⟨w17,hw17⟩ : ∃ v,v = w12.alloc (.cells #[.pointer none] 71) := ⟨_,rfl⟩
        rw [← hw17,← hnny]
        have S17 := ckA S12.out hw17 hnny
        skip
        clear hw17 hnny
        refine hK.out _ _ ?_ (fun hHeld => ?_)
        · exact S17.out.pick [5,6] (by decide)
        clear hK K
        try simp only [sx]
        refine rdH 3 rfl fun K hK => ?_
        go_simp
        refine (open_c ⟨bl,k,ms,es⟩ ⟨B1,d1,B2,d2,B3,d3⟩ w17 (HB.out.below S17.out.below)).mono ?_
        rintro e w18 ⟨by_,m3,m4,rfl,hz,HM,hb⟩
        have S18 : Hid (Sep w.heap.size w [eMach by_ m3 m4 (⟨bl,k,ms,es⟩ : Au),eBlk nny 71 [.pointer none],eBlk nnx 71 [.pointer none],eMach bx m1 m2 (⟨al,n,mr,ed⟩ : Au),eBlk (w.heap.size + 3) 35 [.slice none 0 0,.int .i64 0,.slice none 0 0,.slice none 0 0],eBlk (w.heap.size + 2) 92 [.func (.func fc) #[] lbc],eBlk (w.heap.size + 1) 35 [.slice B1 bl.length d1,.int .i64 k,.slice B2 ms.length d2,.slice B3 es.length d3],eBlk w.heap.size 35 [.slice A1 al.length c1,.int .i64 n,.slice A2 mr.length c2,.slice A3 ed.length c3]] w18) := S17.out.newMach hb hz.1 hz.2.1 hz.2.2 HM.out
        clear HM hb hz
        refine hK.out _ _ ?_ (fun hHeld => ?_)
        · exact S18.out.pick [6,7] (by decide)
        clear hK K
        try simp only [sx]
        refine rdH 6 rfl fun K hK => ?_
        have sc0 := ckC S18.out 2 rfl 0 rfl
        have sf0 := BlkAt.free (S18.out.get 2 rfl) 0
        try dsimp only [Au.val] at *
        go_simp
        obtain ⟨w19,hw19⟩ : ∃ v,v = (w18.setCell ⟨nnx,0,none⟩ (.pointer (some ⟨bx,0,none⟩))) := ⟨_,rfl⟩
        rw [← hw19]
        have S19 : Hid (Sep w.heap.size w [eMach by_ m3 m4 (⟨bl,k,ms,es⟩ : Au),eBlk nny 71 [.pointer none],eBlk nnx 71 [.pointer (some ⟨bx,0,none⟩)],eMach bx m1 m2 (⟨al,n,mr,ed⟩ : Au),eBlk (w.heap.size + 3) 35 [.slice none 0 0,.int .i64 0,.slice none 0 0,.slice none 0 0],eBlk (w.heap.size + 2) 92 [.func (.func fc) #[] lbc],eBlk (w.heap.size + 1) 35 [.slice B1 bl.length d1,.int .i64 k,.slice B2 ms.length d2,.slice B3 es.length d3],eBlk w.heap.size 35 [.slice A1 al.length c1,.int .i64 n,.slice A2 mr.length c2,.slice A3 ed.length c3]] w19) := by rw [hw19]; exact (S18.out.set 2 rfl 0 (.pointer (some ⟨bx,0,none⟩)))
        clear hw19 sc0 sf0
        refine hK.out _ _ ?_ (fun hHeld => ?_)
        · exact S19.out.pick [6,7] (by decide)
        clear hK K
        try simp only [sx]
        refine rdH 7 rfl fun K hK => ?_
        have sc0 := ckC S19.out 1 rfl 0 rfl
        have sf0 := BlkAt.free (S19.out.get 1 rfl) 0
        try dsimp only [Au.val] at *
        go_simp
        obtain ⟨w20,hw20⟩ : ∃ v,v = (w19.setCell ⟨nny,0,none⟩ (.pointer (some ⟨by_,0,none⟩))) := ⟨_,rfl⟩
        rw [← hw20]
        have S20 : Hid (Sep w.heap.size w [eMach by_ m3 m4 (⟨bl,k,ms,es⟩ : Au),eBlk nny 71 [.pointer (some ⟨by_,0,none⟩)],eBlk nnx 71 [.pointer (some ⟨bx,0,none⟩)],eMach bx m1 m2 (⟨al,n,mr,ed⟩ : Au),eBlk (w.heap.size + 3) 35 [.slice none 0 0,.int .i64 0,.slice none 0 0,.slice none 0 0],eBlk (w.heap.size + 2) 92 [.func (.func fc) #[] lbc],eBlk (w.heap.size + 1) 35 [.slice B1 bl.length d1,.int .i64 k,.slice B2 ms.length d2,.slice B3 es.length d3],eBlk w.heap.size 35 [.slice A1 al.length c1,.int .i64 n,.slice A2 mr.length c2,.slice A3 ed.length c3]] w20) := by rw [hw20]; exact (S19.out.set 1 rfl 0 (.pointer (some ⟨by_,0,none⟩)))
        clear hw20 sc0 sf0
        refine hK.out _ _ ?_ (fun hHeld => ?_)
        · exact S20.out.pick [6,7] (by decide)
        clear hK K
        try simp only [sx]
        refine wpAnyH_done (by kernel_rfl) ?_ _
        go_wp2_with fail
        go_meet
        exact ⟨nnx,nny,bx,by_,m1,m2,m3,m4,rfl,rfl,S20.out.pick [2,1,3,0,4,5,6,7] (by decide)⟩
    · skip
      go_simp
      obtain ⟨nny,hnny⟩ : ∃ n,n = w2.heap.size := ⟨_,rfl⟩
      obtain ⟨w21,hw21⟩ : ∃ v,v = w2.alloc (.cells #[.pointer none] 71) := ⟨_,rfl⟩
      rw [← hw21,← hnny]
      have S21 := ckA S2.out hw21 hnny
      skip
      clear hw21 hnny
      refine hK.out _ _ ?_ (fun hHeld => ?_)
      · exact S21.out.pick [4,5] (by decide)
      clear hK K
      try simp only [sx]
      refine wpAnyH_ready (rs := [3,4]) (by kernel_rfl) (by simp) ?_
      refine AllReadyH.cons rfl (fun K hK => ?_) (AllReadyH.cons rfl (fun K hK => ?_) AllReadyH.nil)
      · skip
        go_simp
        refine (open_c ⟨bl,k,ms,es⟩ ⟨B1,d1,B2,d2,B3,d3⟩ w21 (HB.out.below S21.out.below)).mono ?_
        rintro e w22 ⟨by_,m3,m4,rfl,hz,HM,hb⟩
        have S22 : Hid (Sep w.heap.size w [eMach by_ m3 m4 (⟨bl,k,ms,es⟩ : Au),eBlk nny 71 [.pointer none],eMach bx m1 m2 (⟨al,n,mr,ed⟩ : Au),eBlk (w.heap.size + 3) 35 [.slice none 0 0,.int .i64 0,.slice none 0 0,.slice none 0 0],eBlk (w.heap.size + 2) 92 [.func (.func fc) #[] lbc],eBlk (w.heap.size + 1) 35 [.slice B1 bl.length d1,.int .i64 k,.slice B2 ms.length d2,.slice B3 es.length d3],eBlk w.heap.size 35 [.slice A1 al.length c1,.int .i64 n,.slice A2 mr.length c2,.slice A3 ed.length c3]] w22) := S21.out.newMach hb hz.1 hz.2.1 hz.2.2 HM.out
        clear HM hb hz
        refine hK.out _ _ ?_ (fun hHeld => ?_)
        · exact S22.out.pick [5,6] (by decide)
        clear hK K
        try simp only [sx]
        refine rdH 4 rfl fun K hK => ?_
        go_simp
        obtain ⟨nnx,hnnx⟩ : ∃ n,n = w22.heap.size := ⟨_,rfl⟩
        obtain ⟨w23,hw23⟩ : ∃ v,v = w22.alloc (.cells #[.pointer none] 71) := ⟨_,rfl⟩
        rw [← hw23,← hnnx]
        have S23 := ckA S22.out hw23 hnnx
        skip
        clear hw23 hnnx
        refine hK.out _ _ ?_ (fun hHeld => ?_)
        · exact S23.out.pick [6,7] (by decide)
        clear hK K
        try simp only [sx]
        refine rdH 6 rfl fun K hK => ?_
        have sc0 := ckC S23.out 0 rfl 0 rfl
        have sf0 := BlkAt.free (S23.out.get 0 rfl) 0
        try dsimp only [Au.val] at *
        go_simp
        obtain ⟨w24,hw24⟩ : ∃ v,v = (w23.setCell ⟨nnx,0,none⟩ (.pointer (some ⟨bx,0,none⟩))) := ⟨_,rfl⟩
        rw [← hw24]
        have S24 : Hid (Sep w.heap.size w [eBlk nnx 71 [.pointer (some ⟨bx,0,none⟩)],eMach by_ m3 m4 (⟨bl,k,ms,es⟩ : Au),eBlk nny 71 [.pointer none],eMach bx m1 m2 (⟨al,n,mr,ed⟩ : Au),eBlk (w.heap.size + 3) 35 [.slice none 0 0,.int .i64 0,.slice none 0 0,.slice none 0 0],eBlk (w.heap.size + 2) 92 [.func (.func fc) #[] lbc],eBlk (w.heap.size + 1) 35 [.slice B1 bl.length d1,.int .i64 k,.slice B2 ms.length d2,.slice B3 es.length d3],eBlk w.heap.size 35 [.slice A1 al.length c1,.int .i64 n,.slice A2 mr.length c2,.slice A3 ed.length c3]] w24) := by rw [hw24]; exact (S23.out.set 0 rfl 0 (.pointer (some ⟨bx,0,none⟩)))
        clear hw24 sc0 sf0
        refine hK.out _ _ ?_ (fun hHeld => ?_)
        · exact S24.out.pick [6,7] (by decide)
        clear hK K
        try simp only [sx]
        refine rdH 7 rfl fun K hK => ?_
        have sc0 := ckC S24.out 2 rfl 0 rfl
        have sf0 := BlkAt.free (S24.out.get 2 rfl) 0
        try dsimp only [Au.val] at *
        go_simp
        obtain ⟨w25,hw25⟩ : ∃ v,v = (w24.setCell ⟨nny,0,none⟩ (.pointer (some ⟨by_,0,none⟩))) := ⟨_,rfl⟩
        rw [← hw25]
        have S25 : Hid (Sep w.heap.size w [eBlk nnx 71 [.pointer (some ⟨bx,0,none⟩)],eMach by_ m3 m4 (⟨bl,k,ms,es⟩ : Au),eBlk nny 71 [.pointer (some ⟨by_,0,none⟩)],eMach bx m1 m2 (⟨al,n,mr,ed⟩ : Au),eBlk (w.heap.size + 3) 35 [.slice none 0 0,.int .i64 0,.slice none 0 0,.slice none 0 0],eBlk (w.heap.size + 2) 92 [.func (.func fc) #[] lbc],eBlk (w.heap.size + 1) 35 [.slice B1 bl.length d1,.int .i64 k,.slice B2 ms.length d2,.slice B3 es.length d3],eBlk w.heap.size 35 [.slice A1 al.length c1,.int .i64 n,.slice A2 mr.length c2,.slice A3 ed.length c3]] w25) := by rw [hw25]; exact (S24.out.set 2 rfl 0 (.pointer (some ⟨by_,0,none⟩)))
        clear hw25 sc0 sf0
        refine hK.out _ _ ?_ (fun hHeld => ?_)
        · exact S25.out.pick [6,7] (by decide)
        clear hK K
        try simp only [sx]
        refine wpAnyH_done (by kernel_rfl) ?_ _
        go_wp2_with fail
        go_meet
        exact ⟨nnx,nny,bx,by_,m1,m2,m3,m4,rfl,rfl,S25.out.pick [0,2,3,1,4,5,6,7] (by decide)⟩
      · skip
        go_simp
        obtain ⟨nnx,hnnx⟩ : ∃ n,n = w21.heap.size := ⟨_,rfl⟩
        obtain ⟨w26,hw26⟩ : ∃ v,v = w21.alloc (.cells #[.pointer none] 71) := ⟨_,rfl⟩
        rw [← hw26,← hnnx]
        have S26 := ckA S21.out hw26 hnnx
        skip
        clear hw26 hnnx
        refine hK.out _ _ ?_ (fun hHeld => ?_)
        · exact S26.out.pick [5,6] (by decide)
        clear hK K
        try simp only [sx]
        refine rdH 3 rfl fun K hK => ?_
        go_simp
        refine (open_c ⟨bl,k,ms,es⟩ ⟨B1,d1,B2,d2,B3,d3⟩ w26 (HB.out.below S26.out.below)).mono ?_
        rintro e w27 ⟨by_,m3,m4,rfl,hz,HM,hb⟩
        have S27 : Hid (Sep w.heap.size w [eMach by_ m3 m4 (⟨bl,k,ms,es⟩ : Au),eBlk nnx 71 [.pointer none],eBlk nny 71 [.pointer none],eMach bx m1 m2 (⟨al,n,mr,ed⟩ : Au),eBlk (w.heap.size + 3) 35 [.slice none 0 0,.int .i64 0,.slice none 0 0,.slice none 0 0],eBlk (w.heap.size + 2) 92 [.func (.func fc) #[] lbc],eBlk (w.heap.size + 1) 35 [.slice B1 bl.length d1,.int .i64 k,.slice B2 ms.length d2,.slice B3 es.length d3],eBlk w.heap.size 35 [.slice A1 al.length c1,.int .i64 n,.slice A2 mr.length c2,.slice A3 ed.length c3]] w27) := S26.out.newMach hb hz.1 hz.2.1 hz.2.2 HM.out
        clear HM hb hz
        refine hK.out _ _ ?_ (fun hHeld => ?_)
        · exact S27.out.pick [6,7] (by decide)
        clear hK K
        try simp only [sx]
        refine rdH 6 rfl fun K hK => ?_
        have sc0 := ckC S27.out 1 rfl 0 rfl
        have sf0 := BlkAt.free (S27.out.get 1 rfl) 0
        try dsimp only [Au.val] at *
        go_simp
        obtain ⟨w28,hw28⟩ : ∃ v,v = (w27.setCell ⟨nnx,0,none⟩ (.pointer (some ⟨bx,0,none⟩))) := ⟨_,rfl⟩
        rw [← hw28]
        have S28 : Hid (Sep w.heap.size w [eMach by_ m3 m4 (⟨bl,k,ms,es⟩ : Au),eBlk nnx 71 [.pointer (some ⟨bx,0,none⟩)],eBlk nny 71 [.pointer none],eMach bx m1 m2 (⟨al,n,mr,ed⟩ : Au),eBlk (w.heap.size + 3) 35 [.slice none 0 0,.int .i64 0,.slice none 0 0,.slice none 0 0],eBlk (w.heap.size + 2) 92 [.func (.func fc) #[] lbc],eBlk (w.heap.size + 1) 35 [.slice B1 bl.length d1,.int .i64 k,.slice B2 ms.length d2,.slice B3 es.length d3],eBlk w.heap.size 35 [.slice A1 al.length c1,.int .i64 n,.slice A2 mr.length c2,.slice A3 ed.length c3]] w28) := by rw [hw28]; exact (S27.out.set 1 rfl 0 (.pointer (some ⟨bx,0,none⟩)))
        clear hw28 sc0 sf0
        refine hK.out _ _ ?_ (fun hHeld => ?_)
        · exact S28.out.pick [6,7] (by decide)
        clear hK K
        try simp only [sx]
        refine rdH 7 rfl fun K hK => ?_
        have sc0 := ckC S28.out 2 rfl 0 rfl
        have sf0 := BlkAt.free (S28.out.get 2 rfl) 0
        try dsimp only [Au.val] at *
        go_simp
        obtain ⟨w29,hw29⟩ : ∃ v,v = (w28.setCell ⟨nny,0,none⟩ (.pointer (some ⟨by_,0,none⟩))) := ⟨_,rfl⟩
        rw [← hw29]
        have S29 : Hid (Sep w.heap.size w [eMach by_ m3 m4 (⟨bl,k,ms,es⟩ : Au),eBlk nnx 71 [.pointer (some ⟨bx,0,none⟩)],eBlk nny 71 [.pointer (some ⟨by_,0,none⟩)],eMach bx m1 m2 (⟨al,n,mr,ed⟩ : Au),eBlk (w.heap.size + 3) 35 [.slice none 0 0,.int .i64 0,.slice none 0 0,.slice none 0 0],eBlk (w.heap.size + 2) 92 [.func (.func fc) #[] lbc],eBlk (w.heap.size + 1) 35 [.slice B1 bl.length d1,.int .i64 k,.slice B2 ms.length d2,.slice B3 es.length d3],eBlk w.heap.size 35 [.slice A1 al.length c1,.int .i64 n,.slice A2 mr.length c2,.slice A3 ed.length c3]] w29) := by rw [hw29]; exact (S28.out.set 2 rfl 0 (.pointer (some ⟨by_,0,none⟩)))
        clear hw29 sc0 sf0
        refine hK.out _ _ ?_ (fun hHeld => ?_)
        · exact S29.out.pick [6,7] (by decide)
        clear hK K
        try simp only [sx]
        refine wpAnyH_done (by kernel_rfl) ?_ _
        go_wp2_with fail
        go_meet
        exact ⟨nnx,nny,bx,by_,m1,m2,m3,m4,rfl,rfl,S29.out.pick [1,2,3,0,4,5,6,7] (by decide)⟩
  · skip
    go_simp
    obtain ⟨nnx,hnnx⟩ : ∃ n,n = w1.heap.size := ⟨_,rfl⟩
    obtain ⟨w30,hw30⟩ : ∃ v,v = w1.alloc (.cells #[.pointer none] 71) := ⟨_,rfl⟩
    rw [← hw30,← hnnx]
    have S30 := ckA S1.out hw30 hnnx
    skip
    clear hw30 hnnx
    refine hK.out _ _ ?_ (fun hHeld => ?_)
    · exact S30.out.pick [3,4] (by decide)
    clear hK K
    try simp only [sx]
    refine wpAnyH_ready (rs := [1,5]) (by kernel_rfl) (by simp) ?_
    refine AllReadyH.cons rfl (fun K hK => ?_) (AllReadyH.cons rfl (fun K hK => ?_) AllReadyH.nil)
    · skip
      go_simp
      refine (open_c ⟨al,n,mr,ed⟩ ⟨A1,c1,A2,c2,A3,c3⟩ w30 (HA.out.below S30.out.below)).mono ?_
      rintro e w31 ⟨bx,m1,m2,rfl,hz,HM,hb⟩
      have S31 : Hid (Sep w.heap.size w [eMach bx m1 m2 (⟨al,n,mr,ed⟩ : Au),eBlk nnx 71 [.pointer none],eBlk (w.heap.size + 3) 35 [.slice none 0 0,.int .i64 0,.slice none 0 0,.slice none 0 0],eBlk (w.heap.size + 2) 92 [.func (.func fc) #[] lbc],eBlk (w.heap.size + 1) 35 [.slice B1 bl.length d1,.int .i64 k,.slice B2 ms.length d2,.slice B3 es.length d3],eBlk w.heap.size 35 [.slice A1 al.length c1,.int .i64 n,.slice A2 mr.length c2,.slice A3 ed.length c3]] w31) := S30.out.newMach hb hz.1 hz.2.1 hz.2.2 HM.out
      clear HM hb hz
      refine hK.out _ _ ?_ (fun hHeld => ?_)
      · exact S31.out.pick [4,5] (by decide)
      clear hK K
      try simp only [sx]
      refine wpAnyH_ready (rs := [3,5]) (by kernel_rfl) (by simp) ?_
      refine AllReadyH.cons rfl (fun K hK => ?_) (AllReadyH.cons rfl (fun K hK => ?_) AllReadyH.nil)
      · skip
        go_simp
        refine (open_c ⟨bl,k,ms,es⟩ ⟨B1,d1,B2,d2,B3,d3⟩ w31 (HB.out.below S31.out.below)).mono ?_
        rintro e w32 ⟨by_,m3,m4,rfl,hz,HM,hb⟩
        have S32 : Hid (Sep w.heap.size w [eMach by_ m3 m4 (⟨bl,k,ms,es⟩ : Au),eMach bx m1 m2 (⟨al,n,mr,ed⟩ : Au),eBlk nnx 71 [.pointer none],eBlk (w.heap.size + 3) 35 [.slice none 0 0,.int .i64 0,.slice none 0 0,.slice none 0 0],eBlk (w.heap.size + 2) 92 [.func (.func fc) #[] lbc],eBlk (w.heap.size + 1) 35 [.slice B1 bl.length d1,.int .i64 k,.slice B2 ms.length d2,.slice B3 es.length d3],eBlk w.heap.size 35 [.slice A1 al.length c1,.int .i64 n,.slice A2 mr.length c2,.slice A3 ed.length c3]] w32) := S31.out.newMach hb hz.1 hz.2.1 hz.2.2 HM.out
        clear HM hb hz
        refine hK.out _ _ ?_ (fun hHeld => ?_)
        · exact S32.out.pick [5,6] (by decide)
        clear hK K
        try simp only [sx]
        refine rdH 5 rfl fun K hK => ?_
        go_simp
        obtain ⟨nny,hnny⟩ : ∃ n,n = w32.heap.size := ⟨_,rfl⟩
        obtain ⟨w33,hw33⟩ : ∃ v,v = w32.alloc (.cells #[.pointer none] 71) := ⟨_,rfl⟩
        rw [← hw33,← hnny]
        have S33 := ckA S32.out hw33 hnny
        skip
        clear hw33 hnny
        refine hK.out _ _ ?_ (fun hHeld => ?_)
        · exact S33.out.pick [6,7] (by decide)
        clear hK K
        try simp only [sx]
        refine rdH 6 rfl fun K hK => ?_
        have sc0 := ckC S33.out 3 rfl 0 rfl
        have sf0 := BlkAt.free (S33.out.get 3 rfl) 0
        try dsimp only [Au.val] at *
        go_simp
        obtain ⟨w34,hw34⟩ : ∃ v,v = (w33.setCell ⟨nnx,0,none⟩ (.pointer (some ⟨bx,0,none⟩))) := ⟨_,rfl⟩
        rw [← hw34]
        have S34 : Hid (Sep w.heap.size w [eBlk nny 71 [.pointer none],eMach by_ m3 m4 (⟨bl,k,ms,es⟩ : Au),eMach bx m1 m2 (⟨al,n,mr,ed⟩ : Au),eBlk nnx 71 [.pointer (some ⟨bx,0,none⟩)],eBlk (w.heap.size + 3) 35 [.slice none 0 0,.int .i64 0,.slice none 0 0,.slice none 0 0],eBlk (w.heap.size + 2) 92 [.func (.func fc) #[] lbc],eBlk (w.heap.size + 1) 35 [.slice B1 bl.length d1,.int .i64 k,.slice B2 ms.length d2,.slice B3 es.length d3],eBlk w.heap.size 35 [.slice A1 al.length c1,.int .i64 n,.slice A2 mr.length c2,.slice A3 ed.length c3]] w34) := by rw [hw34]; exact (S33.out.set 3 rfl 0 (.pointer (some ⟨bx,0,none⟩)))
        clear hw34 sc0 sf0
        refine hK.out _ _ ?_ (fun hHeld => ?_)
        · exact S34.out.pick [6,7] (by decide)
        clear hK K
        try simp only [sx]
        refine rdH 7 rfl fun K hK => ?_
        have sc0 := ckC S34.out 0 rfl 0 rfl
        have sf0 := BlkAt.free (S34.out.get 0 rfl) 0
        try dsimp only [Au.val] at *
        go_simp
        obtain ⟨w35,hw35⟩ : ∃ v,v = (w34.setCell ⟨nny,0,none⟩ (.pointer (some ⟨by_,0,none⟩))) := ⟨_,rfl⟩
        rw [← hw35]
        have S35 : Hid (Sep w.heap.size w [eBlk nny 71 [.pointer (some ⟨by_,0,none⟩)],eMach by_ m3 m4 (⟨bl,k,ms,es⟩ : Au),eMach bx m1 m2 (⟨al,n,mr,ed⟩ : Au),eBlk nnx 71 [.pointer (some ⟨bx,0,none⟩)],eBlk (w.heap.size + 3) 35 [.slice none 0 0,.int .i64 0,.slice none 0 0,.slice none 0 0],eBlk (w.heap.size + 2) 92 [.func (.func fc) #[] lbc],eBlk (w.heap.size + 1) 35 [.slice B1 bl.length d1,.int .i64 k,.slice B2 ms.length d2,.slice B3 es.length d3],eBlk w.heap.size 35 [.slice A1 al.length c1,.int .i64 n,.slice A2 mr.length c2,.slice A3 ed.length c3]] w35) := by rw [hw35]; exact (S34.out.set 0 rfl 0 (.pointer (some ⟨by_,0,none⟩)))
        clear hw35 sc0 sf0
        refine hK.out _ _ ?_ (fun hHeld => ?_)
        · exact S35.out.pick [6,7] (by decide)
        clear hK K
        try simp only [sx]
        refine wpAnyH_done (by kernel_rfl) ?_ _
        go_wp2_with fail
        go_meet
        exact ⟨nnx,nny,bx,by_,m1,m2,m3,m4,rfl,rfl,S35.out.pick [3,0,2,1,4,5,6,7] (by decide)⟩
      · skip
        go_simp
        obtain ⟨nny,hnny⟩ : ∃ n,n = w31.heap.size := ⟨_,rfl⟩
        obtain ⟨w36,hw36⟩ : ∃ v,v = w31.alloc (.cells #[.pointer none] 71) := ⟨_,rfl⟩
        rw [← hw36,← hnny]
        have S36 := ckA S31.out hw36 hnny
        skip
        clear hw36 hnny
        refine hK.out _ _ ?_ (fun hHeld => ?_)
        · exact S36.out.pick [5,6] (by decide)
        clear hK K
        try simp only [sx]
        refine rdH 3 rfl fun K hK => ?_
        go_simp
        refine (open_c ⟨bl,k,ms,es⟩ ⟨B1,d1,B2,d2,B3,d3⟩ w36 (HB.out.below S36.out.below)).mono ?_
        rintro e w37 ⟨by_,m3,m4,rfl,hz,HM,hb⟩
        have S37 : Hid (Sep w.heap.size w [eMach by_ m3 m4 (⟨bl,k,ms,es⟩ : Au),eBlk nny 71 [.pointer none],eMach bx m1 m2 (⟨al,n,mr,ed⟩ : Au),eBlk nnx 71 [.pointer none],eBlk (w.heap.size + 3) 35 [.slice none 0 0,.int .i64 0,.slice none 0 0,.slice none 0 0],eBlk (w.heap.size + 2) 92 [.func (.func fc) #[] lbc],eBlk (w.heap.size + 1) 35 [.slice B1 bl.length d1,.int .i64 k,.slice B2 ms.length d2,.slice B3 es.length d3],eBlk w.heap.size 35 [.slice A1 al.length c1,.int .i64 n,.slice A2 mr.length c2,.slice A3 ed.length c3]] w37) := S36.out.newMach hb hz.1 hz.2.1 hz.2.2 HM.out
        clear HM hb hz
        refine hK.out _ _ ?_ (fun hHeld => ?_)
        · exact S37.out.pick [6,7] (by decide)
        clear hK K
        try simp only [sx]
        refine rdH 6 rfl fun K hK => ?_
        have sc0 := ckC S37.out 3 rfl 0 rfl
        have sf0 := BlkAt.free (S37.out.get 3 rfl) 0
        try dsimp only [Au.val] at *
        go_simp
        obtain ⟨w38,hw38⟩ : ∃ v,v = (w37.setCell ⟨nnx,0,none⟩ (.pointer (some ⟨bx,0,none⟩))) := ⟨_,rfl⟩
        rw [← hw38]
        have S38 : Hid (Sep w.heap.size w [eMach by_ m3 m4 (⟨bl,k,ms,es⟩ : Au),eBlk nny 71 [.pointer none],eMach bx m1 m2 (⟨al,n,mr,ed⟩ : Au),eBlk nnx 71 [.pointer (some ⟨bx,0,none⟩)],eBlk (w.heap.size + 3) 35 [.slice none 0 0,.int .i64 0,.slice none 0 0,.slice none 0 0],eBlk (w.heap.size + 2) 92 [.func (.func fc) #[] lbc],eBlk (w.heap.size + 1) 35 [.slice B1 bl.length d1,.int .i64 k,.slice B2 ms.length d2,.slice B3 es.length d3],eBlk w.heap.size 35 [.slice A1 al.length c1,.int .i64 n,.slice A2 mr.length c2,.slice A3 ed.length c3]] w38) := by rw [hw38]; exact (S37.out.set 3 rfl 0 (.pointer (some ⟨bx,0,none⟩)))
        clear hw38 sc0 sf0
        refine hK.out _ _ ?_ (fun hHeld => ?_)
        · exact S38.out.pick [6,7] (by decide)
        clear hK K
        try simp only [sx]
        refine rdH 7 rfl fun K hK => ?_
        have sc0 := ckC S38.out 1 rfl 0 rfl
        have sf0 := BlkAt.free (S38.out.get 1 rfl) 0
        try dsimp only [Au.val] at *
        go_simp
        obtain ⟨w39,hw39⟩ : ∃ v,v = (w38.setCell ⟨nny,0,none⟩ (.pointer (some ⟨by_,0,none⟩))) := ⟨_,rfl⟩
        rw [← hw39]
        have S39 : Hid (Sep w.heap.size w [eMach by_ m3 m4 (⟨bl,k,ms,es⟩ : Au),eBlk nny 71 [.pointer (some ⟨by_,0,none⟩)],eMach bx m1 m2 (⟨al,n,mr,ed⟩ : Au),eBlk nnx 71 [.pointer (some ⟨bx,0,none⟩)],eBlk (w.heap.size + 3) 35 [.slice none 0 0,.int .i64 0,.slice none 0 0,.slice none 0 0],eBlk (w.heap.size + 2) 92 [.func (.func fc) #[] lbc],eBlk (w.heap.size + 1) 35 [.slice B1 bl.length d1,.int .i64 k,.slice B2 ms.length d2,.slice B3 es.length d3],eBlk w.heap.size 35 [.slice A1 al.length c1,.int .i64 n,.slice A2 mr.length c2,.slice A3 ed.length c3]] w39) := by rw [hw39]; exact (S38.out.set 1 rfl 0 (.pointer (some ⟨by_,0,none⟩)))
        clear hw39 sc0 sf0
        refine hK.out _ _ ?_ (fun hHeld => ?_)
        · exact S39.out.pick [6,7] (by decide)
        clear hK K
        try simp only [sx]
        refine wpAnyH_done (by kernel_rfl) ?_ _
        go_wp2_with fail
        go_meet
        exact ⟨nnx,nny,bx,by_,m1,m2,m3,m4,rfl,rfl,S39.out.pick [3,1,2,0,4,5,6,7] (by decide)⟩
    · skip
      go_simp
      obtain ⟨nny,hnny⟩ : ∃ n,n = w30.heap.size := ⟨_,rfl⟩
      obtain ⟨w40,hw40⟩ : ∃ v,v = w30.alloc (.cells #[.pointer none] 71) := ⟨_,rfl⟩
      rw [← hw40,← hnny]
      have S40 := ckA S30.out hw40 hnny
      skip
      clear hw40 hnny
      refine hK.out _ _ ?_ (fun hHeld => ?_)
      · exact S40.out.pick [4,5] (by decide)
      clear hK K
      try simp only [sx]
      refine rdH 1 rfl fun K hK => ?_
      go_simp
      refine (open_c ⟨al,n,mr,ed⟩ ⟨A1,c1,A2,c2,A3,c3⟩ w40 (HA.out.below S40.out.below)).mono ?_
      rintro e w41 ⟨bx,m1,m2,rfl,hz,HM,hb⟩
      have S41 : Hid (Sep w.heap.size w [eMach bx m1 m2 (⟨al,n,mr,ed⟩ : Au),eBlk nny 71 [.pointer none],eBlk nnx 71 [.pointer none],eBlk (w.heap.size + 3) 35 [.slice none 0 0,.int .i64 0,.slice none 0 0,.slice none 0 0],eBlk (w.heap.size + 2) 92 [.func (.func fc) #[] lbc],eBlk (w.heap.size + 1) 35 [.slice B1 bl.length d1,.int .i64 k,.slice B2 ms.length d2,.slice B3 es.length d3],eBlk w.heap.size 35 [.slice A1 al.length c1,.int .i64 n,.slice A2 mr.length c2,.slice A3 ed.length c3]] w41) := S40.out.newMach hb hz.1 hz.2.1 hz.2.2 HM.out
      clear HM hb hz
      refine hK.out _ _ ?_ (fun hHeld => ?_)
      · exact S41.out.pick [5,6] (by decide)
      clear hK K
      try simp only [sx]
      refine rdH 3 rfl fun K hK => ?_
      go_simp
      refine (open_c ⟨bl,k,ms,es⟩ ⟨B1,d1,B2,d2,B3,d3⟩ w41 (HB.out.below S41.out.below)).mono ?_
      rintro e w42 ⟨by_,m3,m4,rfl,hz,HM,hb⟩
      have S42 : Hid (Sep w.heap.size w [eMach by_ m3 m4 (⟨bl,k,ms,es⟩ : Au),eMach bx m1 m2 (⟨al,n,mr,ed⟩ : Au),eBlk nny 71 [.pointer none],eBlk nnx 71 [.pointer none],eBlk (w.heap.size + 3) 35 [.slice none 0 0,.int .i64 0,.slice none 0 0,.slice none 0 0],eBlk (w.heap.size + 2) 92 [.func (.func fc) #[] lbc],eBlk (w.heap.size + 1) 35 [.slice B1 bl.length d1,.int .i64 k,.slice B2 ms.length d2,.slice B3 es.length d3],eBlk w.heap.size 35 [.slice A1 al.length c1,.int .i64 n,.slice A2 mr.length c2,.slice A3 ed.length c3]] w42) := S41.out.newMach hb hz.1 hz.2.1 hz.2.2 HM.out
      clear HM hb hz
      refine hK.out _ _ ?_ (fun hHeld => ?_)
      · exact S42.out.pick [6,7] (by decide)
      clear hK K
      try simp only [sx]
      refine rdH 6 rfl fun K hK => ?_
      have sc0 := ckC S42.out 3 rfl 0 rfl
      have sf0 := BlkAt.free (S42.out.get 3 rfl) 0
      try dsimp only [Au.val] at *
      go_simp
      obtain ⟨w43,hw43⟩ : ∃ v,v = (w42.setCell ⟨nnx,0,none⟩ (.pointer (some ⟨bx,0,none⟩))) := ⟨_,rfl⟩
      rw [← hw43]
      have S43 : Hid (Sep w.heap.size w [eMach by_ m3 m4 (⟨bl,k,ms,es⟩ : Au),eMach bx m1 m2 (⟨al,n,mr,ed⟩ : Au),eBlk nny 71 [.pointer none],eBlk nnx 71 [.pointer (some ⟨bx,0,none⟩)],eBlk (w.heap.size + 3) 35 [.slice none 0 0,.int .i64 0,.slice none 0 0,.slice none 0 0],eBlk (w.heap.size + 2) 92 [.func (.func fc) #[] lbc],eBlk (w.heap.size + 1) 35 [.slice B1 bl.length d1,.int .i64 k,.slice B2 ms.length d2,.slice B3 es.length d3],eBlk w.heap.size 35 [.slice A1 al.length c1,.int .i64 n,.slice A2 mr.length c2,.slice A3 ed.length c3]] w43) := by rw [hw43]; exact (S42.out.set 3 rfl 0 (.pointer (some ⟨bx,0,none⟩)))
      clear hw43 sc0 sf0
      refine hK.out _ _ ?_ (fun hHeld => ?_)
      · exact S43.out.pick [6,7] (by decide)
      clear hK K
      try simp only [sx]
      refine rdH 7 rfl fun K hK => ?_
      have sc0 := ckC S43.out 2 rfl 0 rfl
      have sf0 := BlkAt.free (S43.out.get 2 rfl) 0
      try dsimp only [Au.val] at *
      go_simp
      obtain ⟨w44,hw44⟩ : ∃ v,v = (w43.setCell ⟨nny,0,none⟩ (.pointer (some ⟨by_,0,none⟩))) := ⟨_,rfl⟩
      rw [← hw44]
      have S44 : Hid (Sep w.heap.size w [eMach by_ m3 m4 (⟨bl,k,ms,es⟩ : Au),eMach bx m1 m2 (⟨al,n,mr,ed⟩ : Au),eBlk nny 71 [.pointer (some ⟨by_,0,none⟩)],eBlk nnx 71 [.pointer (some ⟨bx,0,none⟩)],eBlk (w.heap.size + 3) 35 [.slice none 0 0,.int .i64 0,.slice none 0 0,.slice none 0 0],eBlk (w.heap.size + 2) 92 [.func (.func fc) #[] lbc],eBlk (w.heap.size + 1) 35 [.slice B1 bl.length d1,.int .i64 k,.slice B2 ms.length d2,.slice B3 es.length d3],eBlk w.heap.size 35 [.slice A1 al.length c1,.int .i64 n,.slice A2 mr.length c2,.slice A3 ed.length c3]] w44) := by rw [hw44]; exact (S43.out.set 2 rfl 0 (.pointer (some ⟨by_,0,none⟩)))
      clear hw44 sc0 sf0
      refine hK.out _ _ ?_ (fun hHeld => ?_)
      · exact S44.out.pick [6,7] (by decide)
      clear hK K
      try simp only [sx]
      refine wpAnyH_done (by kernel_rfl) ?_ _
      go_wp2_with fail
      go_meet
      exact ⟨nnx,nny,bx,by_,m1,m2,m3,m4,rfl,rfl,S44.out.pick [3,2,1,0,4,5,6,7] (by decide)⟩
  · skip
    go_simp
    obtain ⟨nny,hnny⟩ : ∃ n,n = w1.heap.size := ⟨_,rfl⟩
    obtain ⟨w45,hw45⟩ : ∃ v,v = w1.alloc (.cells #[.pointer none] 71) := ⟨_,rfl⟩
    rw [← hw45,← hnny]
    have S45 := ckA S1.out hw45 hnny
    skip
    clear hw45 hnny
    refine hK.out _ _ ?_ (fun hHeld => ?_)
    · exact S45.out.pick [3,4] (by decide)
    clear hK K
    try simp only [sx]
    refine wpAnyH_ready (rs := [1,4]) (by kernel_rfl) (by simp) ?_
    refine AllReadyH.cons rfl (fun K hK => ?_) (AllReadyH.cons rfl (fun K hK => ?_) AllReadyH.nil)
    · skip
      go_simp
      refine (open_c ⟨al,n,mr,ed⟩ ⟨A1,c1,A2,c2,A3,c3⟩ w45 (HA.out.below S45.out.below)).mono ?_
      rintro e w46 ⟨bx,m1,m2,rfl,hz,HM,hb⟩
      have S46 : Hid (Sep w.heap.size w [eMach bx m1 m2 (⟨al,n,mr,ed⟩ : Au),eBlk nny 71 [.pointer none],eBlk (w.heap.size + 3) 35 [.slice none 0 0,.int .i64 0,.slice none 0 0,.slice none 0 0],eBlk (w.heap.size + 2) 92 [.func (.func fc) #[] lbc],eBlk (w.heap.size + 1) 35 [.slice B1 bl.length d1,.int .i64 k,.slice B2 ms.length d2,.slice B3 es.length d3],eBlk w.heap.size 35 [.slice A1 al.length c1,.int .i64 n,.slice A2 mr.length c2,.slice A3 ed.length c3]] w46) := S45.out.newMach hb hz.1 hz.2.1 hz.2.2 HM.out
      clear HM hb hz
      refine hK.out _ _ ?_ (fun hHeld => ?_)
      · exact S46.out.pick [4,5] (by decide)
      clear hK K
      try simp only [sx]
      refine wpAnyH_ready (rs := [3,4]) (by kernel_rfl) (by simp) ?_
      refine AllReadyH.cons rfl (fun K hK => ?_) (AllReadyH.cons rfl (fun K hK => ?_) AllReadyH.nil)
      · skip
        go_simp
        refine (open_c ⟨bl,k,ms,es⟩ ⟨B1,d1,B2,d2,B3,d3⟩ w46 (HB.out.below S46.out.below)).mono ?_
        rintro e w47 ⟨by_,m3,m4,rfl,hz,HM,hb⟩
        have S47 : Hid (Sep w.heap.size w [eMach by_ m3 m4 (⟨bl,k,ms,es⟩ : Au),eMach bx m1 m2 (⟨al,n,mr,ed⟩ : Au),eBlk nny 71 [.pointer none],eBlk (w.heap.size + 3) 35 [.slice none 0 0,.int .i64 0,.slice none 0 0,.slice none 0 0],eBlk (w.heap.size + 2) 92 [.func (.func fc) #[] lbc],eBlk (w.heap.size + 1) 35 [.slice B1 bl.length d1,.int .i64 k,.slice B2 ms.length d2,.slice B3 es.length d3],eBlk w.heap.size 35 [.slice A1 al.length c1,.int .i64 n,.slice A2 mr.length c2,.slice A3 ed.length c3]] w47) := S46.out.newMach hb hz.1 hz.2.1 hz.2.2 HM.out
        clear HM hb hz
        refine hK.out _ _ ?_ (fun hHeld => ?_)
        · exact S47.out.pick [5,6] (by decide)
        clear hK K
        try simp only [sx]
        refine rdH 4 rfl fun K hK => ?_
        go_simp
        obtain ⟨nnx,hnnx⟩ : ∃ n,n = w47.heap.size := ⟨_,rfl⟩
        obtain ⟨w48,hw48⟩ : ∃ v,v = w47.alloc (.cells #[.pointer none] 71) := ⟨_,rfl⟩
        rw [← hw48,← hnnx]
        have S48 := ckA S47.out hw48 hnnx
        skip
        clear hw48 hnnx
        refine hK.out _ _ ?_ (fun hHeld => ?_)
        · exact S48.out.pick [6,7] (by decide)
        clear hK K
        try simp only [sx]
        refine rdH 6 rfl fun K hK => ?_
        have sc0 := ckC S48.out 0 rfl 0 rfl
        have sf0 := BlkAt.free (S48.out.get 0 rfl) 0
        try dsimp only [Au.val] at *
        go_simp
        obtain ⟨w49,hw49⟩ : ∃ v,v = (w48.setCell ⟨nnx,0,none⟩ (.pointer (some ⟨bx,0,none⟩))) := ⟨_,rfl⟩
        rw [← hw49]
        have S49 : Hid (Sep w.heap.size w [eBlk nnx 71 [.pointer (some ⟨bx,0,none⟩)],eMach by_ m3 m4 (⟨bl,k,ms,es⟩ : Au),eMach bx m1 m2 (⟨al,n,mr,ed⟩ : Au),eBlk nny 71 [.pointer none],eBlk (w.heap.size + 3) 35 [.slice none 0 0,.int .i64 0,.slice none 0 0,.slice none 0 0],eBlk (w.heap.size + 2) 92 [.func (.func fc) #[] lbc],eBlk (w.heap.size + 1) 35 [.slice B1 bl.length d1,.int .i64 k,.slice B2 ms.length d2,.slice B3 es.length d3],eBlk w.heap.size 35 [.slice A1 al.length c1,.int .i64 n,.slice A2 mr.length c2,.slice A3 ed.length c3]] w49) := by rw [hw49]; exact (S48.out.set 0 rfl 0 (.pointer (some ⟨bx,0,none⟩)))
        clear hw49 sc0 sf0
        refine hK.out _ _ ?_ (fun hHeld => ?_)
        · exact S49.out.pick [6,7] (by decide)
        clear hK K
        try simp only [sx]
        refine rdH 7 rfl fun K hK => ?_
        have sc0 := ckC S49.out 3 rfl 0 rfl
        have sf0 := BlkAt.free (S49.out.get 3 rfl) 0
        try dsimp only [Au.val] at *
        go_simp
        obtain ⟨w50,hw50⟩ : ∃ v,v = (w49.setCell ⟨nny,0,none⟩ (.pointer (some ⟨by_,0,none⟩))) := ⟨_,rfl⟩
        rw [← hw50]
        have S50 : Hid (Sep w.heap.size w [eBlk nnx 71 [.pointer (some ⟨bx,0,none⟩)],eMach by_ m3 m4 (⟨bl,k,ms,es⟩ : Au),eMach bx m1 m2 (⟨al,n,mr,ed⟩ : Au),eBlk nny 71 [.pointer (some ⟨by_,0,none⟩)],eBlk (w.heap.size + 3) 35 [.slice none 0 0,.int .i64 0,.slice none 0 0,.slice none 0 0],eBlk (w.heap.size + 2) 92 [.func (.func fc) #[] lbc],eBlk (w.heap.size + 1) 35 [.slice B1 bl.length d1,.int .i64 k,.slice B2 ms.length d2,.slice B3 es.length d3],eBlk w.heap.size 35 [.slice A1 al.length c1,.int .i64 n,.slice A2 mr.length c2,.slice A3 ed.length c3]] w50) := by rw [hw50]; exact (S49.out.set 3 rfl 0 (.pointer (some ⟨by_,0,none⟩)))
        clear hw50 sc0 sf0
        refine hK.out _ _ ?_ (fun hHeld => ?_)
        · exact S50.out.pick [6,7] (by decide)
        clear hK K
        try simp only [sx]
        refine wpAnyH_done (by kernel_rfl) ?_ _
        go_wp2_with fail
        go_meet
        exact ⟨nnx,nny,bx,by_,m1,m2,m3,m4,rfl,rfl,S50.out.pick [0,3,2,1,4,5,6,7] (by decide)⟩
      · skip
        go_simp
        obtain ⟨nnx,hnnx⟩ : ∃ n,n = w46.heap.size := ⟨_,rfl⟩
        obtain ⟨w51,hw51⟩ : ∃ v,v = w46.alloc (.cells #[.pointer none] 71) := ⟨_,rfl⟩
        rw [← hw51,← hnnx]
        have S51 := ckA S46.out hw51 hnnx
        skip
        clear hw51 hnnx
        refine hK.out _ _ ?_ (fun hHeld => ?_)
        · exact S51.out.pick [5,6] (by decide)
        clear hK K
        try simp only [sx]
        refine rdH 3 rfl fun K hK => ?_
        go_simp
        refine (open_c ⟨bl,k,ms,es⟩ ⟨B1,d1,B2,d2,B3,d3⟩ w51 (HB.out.below S51.out.below)).mono ?_
        rintro e w52 ⟨by_,m3,m4,rfl,hz,HM,hb⟩
        have S52 : Hid (Sep w.heap.size w [eMach by_ m3 m4 (⟨bl,k,ms,es⟩ : Au),eBlk nnx 71 [.pointer none],eMach bx m1 m2 (⟨al,n,mr,ed⟩ : Au),eBlk nny 71 [.pointer none],eBlk (w.heap.size + 3) 35 [.slice none 0 0,.int .i64 0,.slice none 0 0,.slice none 0 0],eBlk (w.heap.size + 2) 92 [.func (.func fc) #[] lbc],eBlk (w.heap.size + 1) 35 [.slice B1 bl.length d1,.int .i64 k,.slice B2 ms.length d2,.slice B3 es.length d3],eBlk w.heap.size 35 [.slice A1 al.length c1,.int .i64 n,.slice A2 mr.length c2,.slice A3 ed.length c3]] w52) := S51.out.newMach hb hz.1 hz.2.1 hz.2.2 HM.out
        clear HM hb hz
        refine hK.out _ _ ?_ (fun hHeld => ?_)
        · exact S52.out.pick [6,7] (by decide)
        clear hK K
        try simp only [sx]
        refine rdH 6 rfl fun K hK => ?_
        have sc0 := ckC S52.out 1 rfl 0 rfl
        have sf0 := BlkAt.free (S52.out.get 1 rfl) 0
        try dsimp only [Au.val] at *
        go_simp
        obtain ⟨w53,hw53⟩ : ∃ v,v = (w52.setCell ⟨nnx,0,none⟩ (.pointer (some ⟨bx,0,none⟩))) := ⟨_,rfl⟩
        rw [← hw53]
        have S53 : Hid (Sep w.heap.size w [eMach by_ m3 m4 (⟨bl,k,ms,es⟩ : Au),eBlk nnx 71 [.pointer (some ⟨bx,0,none⟩)],eMach bx m1 m2 (⟨al,n,mr,ed⟩ : Au),eBlk nny 71 [.pointer none],eBlk (w.heap.size + 3) 35 [.slice none 0 0,.int .i64 0,.slice none 0 0,.slice none 0 0],eBlk (w.heap.size + 2) 92 [.func (.func fc) #[] lbc],eBlk (w.heap.size + 1) 35 [.slice B1 bl.length d1,.int .i64 k,.slice B2 ms.length d2,.slice B3 es.length d3],eBlk w.heap.size 35 [.slice A1 al.length c1,.int .i64 n,.slice A2 mr.length c2,.slice A3 ed.length c3]] w53) := by rw [hw53]; exact (S52.out.set 1 rfl 0 (.pointer (some ⟨bx,0,none⟩)))
        clear hw53 sc0 sf0
        refine hK.out _ _ ?_ (fun hHeld => ?_)
        · exact S53.out.pick [6,7] (by decide)
        clear hK K
        try simp only [sx]
        refine rdH 7 rfl fun K hK => ?_
        have sc0 := ckC S53.out 3 rfl 0 rfl
        have sf0 := BlkAt.free (S53.out.get 3 rfl) 0
        try dsimp only [Au.val] at *
        go_simp
        obtain ⟨w54,hw54⟩ : ∃ v,v = (w53.setCell ⟨nny,0,none⟩ (.pointer (some ⟨by_,0,none⟩))) := ⟨_,rfl⟩
        rw [← hw54]
        have S54 : Hid (Sep w.heap.size w [eMach by_ m3 m4 (⟨bl,k,ms,es⟩ : Au),eBlk nnx 71 [.pointer (some ⟨bx,0,none⟩)],eMach bx m1 m2 (⟨al,n,mr,ed⟩ : Au),eBlk nny 71 [.pointer (some ⟨by_,0,none⟩)],eBlk (w.heap.size + 3) 35 [.slice none 0 0,.int .i64 0,.slice none 0 0,.slice none 0 0],eBlk (w.heap.size + 2) 92 [.func (.func fc) #[] lbc],eBlk (w.heap.size + 1) 35 [.slice B1 bl.length d1,.int .i64 k,.slice B2 ms.length d2,.slice B3 es.length d3],eBlk w.heap.size 35 [.slice A1 al.length c1,.int .i64 n,.slice A2 mr.length c2,.slice A3 ed.length c3]] w54) := by rw [hw54]; exact (S53.out.set 3 rfl 0 (.pointer (some ⟨by_,0,none⟩)))
        clear hw54 sc0 sf0
        refine hK.out _ _ ?_ (fun hHeld => ?_)
        · exact S54.out.pick [6,7] (by decide)
        clear hK K
        try simp only [sx]
        refine wpAnyH_done (by kernel_rfl) ?_ _
        go_wp2_with fail
        go_meet
        exact ⟨nnx,nny,bx,by_,m1,m2,m3,m4,rfl,rfl,S54.out.pick [1,3,2,0,4,5,6,7] (by decide)⟩
    · skip
      go_simp
      obtain ⟨nnx,hnnx⟩ : ∃ n,n = w45.heap.size := ⟨_,rfl⟩
      obtain ⟨w55,hw55⟩ : ∃ v,v = w45.alloc (.cells #[.pointer none] 71) := ⟨_,rfl⟩
      rw [← hw55,← hnnx]
      have S55 := ckA S45.out hw55 hnnx
      skip
      clear hw55 hnnx
      refine hK.out _ _ ?_ (fun hHeld => ?_)
      · exact S55.out.pick [4,5] (by decide)
      clear hK K
      try simp only [sx]
      refine rdH 1 rfl fun K hK => ?_
      go_simp
      refine (open_c ⟨al,n,mr,ed⟩ ⟨A1,c1,A2,c2,A3,c3⟩ w55 (HA.out.below S55.out.below)).mono ?_
      rintro e w56 ⟨bx,m1,m2,rfl,hz,HM,hb⟩
      have S56 : Hid (Sep w.heap.size w [eMach bx m1 m2 (⟨al,n,mr,ed⟩ : Au),eBlk nnx 71 [.pointer none],eBlk nny 71 [.pointer none],eBlk (w.heap.size + 3) 35 [.slice none 0 0,.int .i64 0,.slice none 0 0,.slice none 0 0],eBlk (w.heap.size + 2) 92 [.func (.func fc) #[] lbc],eBlk (w.heap.size + 1) 35 [.slice B1 bl.length d1,.int .i64 k,.slice B2 ms.length d2,.slice B3 es.length d3],eBlk w.heap.size 35 [.slice A1 al.length c1,.int .i64 n,.slice A2 mr.length c2,.slice A3 ed.length c3]] w56) := S55.out.newMach hb hz.1 hz.2.1 hz.2.2 HM.out
      clear HM hb hz
      refine hK.out _ _ ?_ (fun hHeld => ?_)
      · exact S56.out.pick [5,6] (by decide)
      clear hK K
      try simp only [sx]
      refine rdH 3 rfl fun K hK => ?_
      go_simp
      refine (open_c ⟨bl,k,ms,es⟩ ⟨B1,d1,B2,d2,B3,d3⟩ w56 (HB.out.below S56.out.below)).mono ?_
      rintro e w57 ⟨by_,m3,m4,rfl,hz,HM,hb⟩
      have S57 : Hid (Sep w.heap.size w [eMach by_ m3 m4 (⟨bl,k,ms,es⟩ : Au),eMach bx m1 m2 (⟨al,n,mr,ed⟩ : Au),eBlk nnx 71 [.pointer none],eBlk nny 71 [.pointer none],eBlk (w.heap.size + 3) 35 [.slice none 0 0,.int .i64 0,.slice none 0 0,.slice none 0 0],eBlk (w.heap.size + 2) 92 [.func (.func fc) #[] lbc],eBlk (w.heap.size + 1) 35 [.slice B1 bl.length d1,.int .i64 k,.slice B2 ms.length d2,.slice B3 es.length d3],eBlk w.heap.size 35 [.slice A1 al.length c1,.int .i64 n,.slice A2 mr.length c2,.slice A3 ed.length c3]] w57) := S56.out.newMach hb hz.1 hz.2.1 hz.2.2 HM.out
      clear HM hb hz
      refine hK.out _ _ ?_ (fun hHeld => ?_)
      · exact S57.out.pick [6,7] (by decide)
      clear hK K
      try simp only [sx]
      refine rdH 6 rfl fun K hK => ?_
      have sc0 := ckC S57.out 2 rfl 0 rfl
      have sf0 := BlkAt.free (S57.out.get 2 rfl) 0
      try dsimp only [Au.val] at *
      go_simp
      obtain ⟨w58,hw58⟩ : ∃ v,v = (w57.setCell ⟨nnx,0,none⟩ (.pointer (some ⟨bx,0,none⟩))) := ⟨_,rfl⟩
      rw [← hw58]
      have S58 : Hid (Sep w.heap.size w [eMach by_ m3 m4 (⟨bl,k,ms,es⟩ : Au),eMach bx m1 m2 (⟨al,n,mr,ed⟩ : Au),eBlk nnx 71 [.pointer (some ⟨bx,0,none⟩)],eBlk nny 71 [.pointer none],eBlk (w.heap.size + 3) 35 [.slice none 0 0,.int .i64 0,.slice none 0 0,.slice none 0 0],eBlk (w.heap.size + 2) 92 [.func (.func fc) #[] lbc],eBlk (w.heap.size + 1) 35 [.slice B1 bl.length d1,.int .i64 k,.slice B2 ms.length d2,.slice B3 es.length d3],eBlk w.heap.size 35 [.slice A1 al.length c1,.int .i64 n,.slice A2 mr.length c2,.slice A3 ed.length c3]] w58) := by rw [hw58]; exact (S57.out.set 2 rfl 0 (.pointer (some ⟨bx,0,none⟩)))
      clear hw58 sc0 sf0
      refine hK.out _ _ ?_ (fun hHeld => ?_)
      · exact S58.out.pick [6,7] (by decide)
      clear hK K
      try simp only [sx]
      refine rdH 7 rfl fun K hK => ?_
      have sc0 := ckC S58.out 3 rfl 0 rfl
      have sf0 := BlkAt.free (S58.out.get 3 rfl) 0
      try dsimp only [Au.val] at *
      go_simp
      obtain ⟨w59,hw59⟩ : ∃ v,v = (w58.setCell ⟨nny,0,none⟩ (.pointer (some ⟨by_,0,none⟩))) := ⟨_,rfl⟩
      rw [← hw59]
      have S59 : Hid (Sep w.heap.size w [eMach by_ m3 m4 (⟨bl,k,ms,es⟩ : Au),eMach bx m1 m2 (⟨al,n,mr,ed⟩ : Au),eBlk nnx 71 [.pointer (some ⟨bx,0,none⟩)],eBlk nny 71 [.pointer (some ⟨by_,0,none⟩)],eBlk (w.heap.size + 3) 35 [.slice none 0 0,.int .i64 0,.slice none 0 0,.slice none 0 0],eBlk (w.heap.size + 2) 92 [.func (.func fc) #[] lbc],eBlk (w.heap.size + 1) 35 [.slice B1 bl.length d1,.int .i64 k,.slice B2 ms.length d2,.slice B3 es.length d3],eBlk w.heap.size 35 [.slice A1 al.length c1,.int .i64 n,.slice A2 mr.length c2,.slice A3 ed.length c3]] w59) := by rw [hw59]; exact (S58.out.set 3 rfl 0 (.pointer (some ⟨by_,0,none⟩)))
      clear hw59 sc0 sf0
      refine hK.out _ _ ?_ (fun hHeld => ?_)
      · exact S59.out.pick [6,7] (by decide)
      clear hK K
      try simp only [sx]
      refine wpAnyH_done (by kernel_rfl) ?_ _
      go_wp2_with fail
      go_meet
      exact ⟨nnx,nny,bx,by_,m1,m2,m3,m4,rfl,rfl,S59.out.pick [2,3,1,0,4,5,6,7] (by decide)⟩
 case rest =>
  clear S0
  obtain ⟨nx,ny,bx,by_,m1,m2,m3,m4,rfl,rfl,S⟩ := hcut
  go_upto_region 5 with fail
  have S60 := Lib.hid S.out.drew
  refine wp_region_held_drew (S := (fun V => Sep w.heap.size w [eBlk nx 71 [.pointer (some ⟨bx,0,none⟩)],eBlk ny 71 [.pointer (some ⟨by_,0,none⟩)],eMach bx m1 m2 (⟨al,n,mr,ed⟩ : Au),eMach by_ m3 m4 (⟨bl,k,ms,es⟩ : Au),eBlk (w.heap.size + 1) 35 [.slice B1 bl.length d1,.int .i64 k,.slice B2 ms.length d2,.slice B3 es.length d3],eBlk w.heap.size 35 [.slice A1 al.length c1,.int .i64 n,.slice A2 mr.length c2,.slice A3 ed.length c3]] V)) (by kernel_rfl) ?_ (fun hHeld => ?_)
  · exact S60.out.pick [0,1,2,3,6,7] (by decide)
  generalize hwz : wc.drew = w60 at *
  clear hwz
  refine tkP 0 rfl hHeld ?_
  try simp only [sx]
  refine tkH 1 rfl (v := ?_) (by kernel_rfl) ?_ hHeld ?_
  rotate_left
  · intro V hSw
    have b0 := ckC hSw 5 rfl 0 rfl
    clear hSw
    first | (go_simp; done) | (go_simp; with_reducible rfl)
  try simp only [sx]
  refine tkP 2 rfl hHeld ?_
  try simp only [sx]
  refine tkH 3 rfl (v := ?_) (by kernel_rfl) ?_ hHeld ?_
  rotate_left
  · intro V hSw
    have b0 := ckC hSw 4 rfl 0 rfl
    clear hSw
    first | (go_simp; done) | (go_simp; with_reducible rfl)
  try simp only [sx]
  refine tkH 5 rfl (v := ?_) (by kernel_rfl) ?_ hHeld ?_
  rotate_left
  · intro V hSw
    have b0 := ckC hSw 0 rfl 0 rfl
    clear hSw
    first | (go_simp; done) | (go_simp; with_reducible rfl)
  try simp only [sx]
  refine tkP 6 rfl hHeld ?_
  try simp only [sx]
  refine tkP 7 rfl hHeld ?_
  try simp only [sx]
  refine tkH 8 rfl (v := ?_) (by kernel_rfl) ?_ hHeld ?_
  rotate_left
  · intro V hSw
    have mf := Mach.first (Sep.get (show Sep w.heap.size w _ V from hSw) 2 rfl).mach
    clear hSw
    first | (go_simp; done) | (go_simp; with_reducible rfl)
  try simp only [sx]
  refine tkH 9 rfl (v := ?_) (by kernel_rfl) ?_ hHeld ?_
  rotate_left
  · intro V hSw
    have b0 := ckC hSw 1 rfl 0 rfl
    clear hSw
    first | (go_simp; done) | (go_simp; with_reducible rfl)
  try simp only [sx]
  refine tkP 10 rfl hHeld ?_
  try simp only [sx]
  refine tkP 11 rfl hHeld ?_
  try simp only [sx]
  refine tkH 12 rfl (v := ?_) (by kernel_rfl) ?_ hHeld ?_
  rotate_left
  · intro V hSw
    have mf := Mach.first (Sep.get (show Sep w.heap.size w _ V from hSw) 3 rfl).mach
    clear hSw
    first | (go_simp; done) | (go_simp; with_reducible rfl)
  try simp only [sx]
  refine tkP 13 rfl hHeld ?_
  try simp only [sx]
  refine tkP 14 rfl hHeld ?_
  try simp only [sx]
  refine tkP 15 rfl hHeld ?_
  try simp only [sx]
  refine rdH 4 rfl fun K hK => ?_
  go_simp
  refine (union_c A1 B1 c1 d1 al bl w60 (HA.out.below S60.out.below).al (HB.out.below S60.out.below).al HCA.out.c1 HCB.out.c1 (by omega)).mono ?_
  rintro e w61 ⟨AU_,cU,rfl,O,hb⟩
  have S61 : Hid (Sep w.heap.size w [eInts (unionV al bl) (.slice AU_ (unionV al bl).length cU),eBlk nx 71 [.pointer (some ⟨bx,0,none⟩)],eBlk ny 71 [.pointer (some ⟨by_,0,none⟩)],eMach bx m1 m2 (⟨al,n,mr,ed⟩ : Au),eMach by_ m3 m4 (⟨bl,k,ms,es⟩ : Au),eBlk (w.heap.size + 3) 35 [.slice none 0 0,.int .i64 0,.slice none 0 0,.slice none 0 0],eBlk (w.heap.size + 2) 92 [.func (.func fc) #[] lbc],eBlk (w.heap.size + 1) 35 [.slice B1 bl.length d1,.int .i64 k,.slice B2 ms.length d2,.slice B3 es.length d3],eBlk w.heap.size 35 [.slice A1 al.length c1,.int .i64 n,.slice A2 mr.length c2,.slice A3 ed.length c3]] w61) := S60.out.newI O.out hb
  clear O hb
  refine hK.out _ _ ?_ (fun hHeld => ?_)
  · exact S61.out.pick [1,2,3,4,7,8] (by decide)
  clear hK K
  try simp only [sx]
  refine rdH 16 rfl fun K hK => ?_
  go_simp
  refine (EXP.out w61 S61.out AU_ cU (S61.out.ints 0 rfl) 1 2 3 4 6 rfl rfl rfl rfl rfl).mono ?_
  intro e w62 hEx
  obtain ⟨m,p',r,rfl,T,LN,RR⟩ := hEx.one
  have S62 := ckN S61.out T.out
  clear T hEx
  refine hK.out _ _ ?_ (fun hHeld => ?_)
  · exact S62.out.pick [4,5,6,7,10,11] (by decide)
  clear hK K
  try simp only [sx]
  refine tkP 17 rfl hHeld ?_
  try simp only [sx]
  refine tkP 18 rfl hHeld ?_
  try simp only [sx]
  refine rdH 19 rfl fun K hK => ?_
  have sc0 := ckC S62.out 8 rfl 0 rfl
  have sf0 := BlkAt.free (S62.out.get 8 rfl) 0
  have sc1 := ckC S62.out 8 rfl 1 rfl
  have sf1 := BlkAt.free (S62.out.get 8 rfl) 1
  have sc2 := ckC S62.out 8 rfl 2 rfl
  have sf2 := BlkAt.free (S62.out.get 8 rfl) 2
  have sc3 := ckC S62.out 8 rfl 3 rfl
  have sf3 := BlkAt.free (S62.out.get 8 rfl) 3
  try dsimp only [Au.val] at *
  go_simp
  obtain ⟨w63,hw63⟩ : ∃ v,v = ((((w62.setCell ⟨w.heap.size + 3,0,none⟩ (.slice p'.A1 m.al.length p'.c1)).setCell ⟨w.heap.size + 3,1,none⟩ (.int .i64 m.n)).setCell ⟨w.heap.size + 3,2,none⟩ (.slice p'.A2 m.mr.length p'.c2)).setCell ⟨w.heap.size + 3,3,none⟩ (.slice p'.A3 m.ed.length p'.c3)) := ⟨_,rfl⟩
  rw [← hw63]
  have S63 : Hid (Sep w.heap.size w [eInts m.al (.slice p'.A1 m.al.length p'.c1),eInts m.mr (.slice p'.A2 m.mr.length p'.c2),eEds m.ed (.slice p'.A3 m.ed.length p'.c3),eInts (unionV al bl) (.slice AU_ (unionV al bl).length cU),eBlk nx 71 [.pointer (some ⟨bx,0,none⟩)],eBlk ny 71 [.pointer (some ⟨by_,0,none⟩)],eMach bx m1 m2 (⟨al,n,mr,ed⟩ : Au),eMach by_ m3 m4 (⟨bl,k,ms,es⟩ : Au),eBlk (w.heap.size + 3) 35 [.slice p'.A1 m.al.length p'.c1,.int .i64 m.n,.slice p'.A2 m.mr.length p'.c2,.slice p'.A3 m.ed.length p'.c3],eBlk (w.heap.size + 2) 92 [.func (.func fc) #[] lbc],eBlk (w.heap.size + 1) 35 [.slice B1 bl.length d1,.int .i64 k,.slice B2 ms.length d2,.slice B3 es.length d3],eBlk w.heap.size 35 [.slice A1 al.length c1,.int .i64 n,.slice A2 mr.length c2,.slice A3 ed.length c3]] w63) := by rw [hw63]; exact ((((S62.out.set 8 rfl 0 (.slice p'.A1 m.al.length p'.c1)).set 8 rfl 1 (.int .i64 m.n)).set 8 rfl 2 (.slice p'.A2 m.mr.length p'.c2)).set 8 rfl 3 (.slice p'.A3 m.ed.length p'.c3))
  clear hw63 sc0 sf0 sc1 sf1 sc2 sf2 sc3 sf3
  refine hK.out _ _ ?_ (fun hHeld => ?_)
  · exact S63.out.pick [4,5,6,7,10,11] (by decide)
  clear hK K
  try simp only [sx]
  refine tkP 20 rfl hHeld ?_
  try simp only [sx]
  refine wpAnyH_done (by kernel_rfl) ?_ _
  have r0 := ckC S63.out 8 rfl 0 rfl
  have r1 := ckC S63.out 8 rfl 1 rfl
  have r2 := ckC S63.out 8 rfl 2 rfl
  have r3 := ckC S63.out 8 rfl 3 rfl
  have SF : Hid (Sep w.heap.size w (eAu m p') w63) := S63.out.pick [0,1,2] (by decide)
  go_wp2_with fail
  refine bodyPost_ret (v := .tuple #[.agg #[.slice p'.A1 m.al.length p'.c1,.int .i64 m.n,.slice p'.A2 m.mr.length p'.c2,.slice p'.A3 m.ed.length p'.c3],.int .i64 r]) (by simp [results,Tryd.results51,go_sem, *]) rfl ?_
  exact ⟨m,p',r,rfl,SF.out,LN.out,co_of HRA.out HRB.out RR.out⟩
end Go.Proofs.YtkifgffhoenaoaaDoor
