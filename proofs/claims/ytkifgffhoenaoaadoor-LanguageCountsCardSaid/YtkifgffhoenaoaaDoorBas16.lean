/-
  language.combine at right automata, with its closures.
-/
import Derived.Test.YtkifgffhoenaoaaDoorBas01
import Derived.Test.YtkifgffhoenaoaaDoorBas14
import Derived.Test.YtkifgffhoenaoaaDoorBas10
import Derived.Test.YtkifgffhoenaoaaDoorBas15
import Derived.Lib.ItoaLen
set_option linter.unusedSimpArgs false
set_option linter.unusedVariables false
namespace Go.Proofs.YtkifgffhoenaoaaDoor
open Go.RowKit
set_option maxRecDepth 100000
set_option maxHeartbeats 2000000 in
theorem textP_c (v : Int × Int) (w : World) (htab : TabW w) (h1 : -1 ≤ v.1 ∧ v.1 ≤ 4096) (h2 : -1 ≤ v.2 ∧ v.2 ≤ 4096) :
 Calls Tryd.prog 75 #[.agg #[.int .i64 v.1,.int .i64 v.2]] w (Ret (.string (textP v)) w) := by
 have HTAB := Lib.hid htab
 clear htab
 obtain ⟨x,y⟩ := v
 dsimp only at h1 h2 ⊢
 have ITX := Lib.hid (fun (V : World) (h : Below w.heap.size w V) => itoa_c x V (by omega) (by omega) (HTAB.out.below h))
 have ITY := Lib.hid (fun (V : World) (h : Below w.heap.size w V) => itoa_c y V (by omega) (by omega) (HTAB.out.below h))
 have lx := Lib.itoa_length_le x (by omega) (by omega)
 have ly := Lib.itoa_length_le y (by omega) (by omega)
 unfold textP
 dsimp only
 obtain ⟨sx,hsx⟩ : ∃ s,s = Lib.itoa x := ⟨_,rfl⟩
 obtain ⟨sy,hsy⟩ : ∃ s,s = Lib.itoa y := ⟨_,rfl⟩
 rw [← hsx] at ITX lx ⊢
 rw [← hsy] at ITY ly ⊢
 have hA : ¬ 9223372036854775807 < sx.length + 1 := by omega
 have hB : ¬ 9223372036854775807 < sx.length + 1 + sy.length := by omega
 have eA : (⟨sx.toArray⟩ : ByteArray) ++ (⟨#[32]⟩ : ByteArray) = ⟨(sx ++ [32]).toArray⟩ := by apply ByteArray.ext; simp
 have eB : (⟨(sx ++ [32]).toArray⟩ : ByteArray) ++ (⟨sy.toArray⟩ : ByteArray) = ⟨(sx ++ 32 :: sy).toArray⟩ := by apply ByteArray.ext; simp
 clear hsx hsy lx ly
 go_enter Tryd.func75,Tryd.ntmps75
 go_upto_region 1 with fail
 refine wp_world (fun W => Sep w.heap.size w [eBlk w.heap.size 75 [.int .i64 x,.int .i64 y]] W) ((Sep.here w).alloc' _ [_,_] rfl rfl) fun W S => ?_
 have S0 := Lib.hid S
 clear S
 have S1 := Lib.hid S0.out.drew
 refine wp_region_held_drew (S := (fun V => Sep w.heap.size w [eBlk w.heap.size 75 [.int .i64 x,.int .i64 y]] V)) (by kernel_rfl) ?_ (fun hHeld => ?_)
 · exact S1.out.pick [0] (by decide)
 generalize hwz : W.drew = w1 at *
 clear hwz
 refine tkP 0 rfl hHeld ?_
 try simp only [sx]
 refine tkH 1 rfl (v := ?_) (by kernel_rfl) ?_ hHeld ?_
 rotate_left
 · intro V hSw
   have b0 := ckC hSw 0 rfl 0 rfl
   clear hSw
   first | (go_simp; done) | (go_simp; with_reducible rfl)
 try simp only [sx]
 refine tkP 4 rfl hHeld ?_
 try simp only [sx]
 refine tkH 5 rfl (v := ?_) (by kernel_rfl) ?_ hHeld ?_
 rotate_left
 · intro V hSw
   have b1 := ckC hSw 0 rfl 1 rfl
   clear hSw
   first | (go_simp; done) | (go_simp; with_reducible rfl)
 try simp only [sx]
 refine rdH 2 rfl fun K hK => ?_
 go_simp
 refine (ITX.out w1 S1.out.below).mono ?_
 rintro e w2 ⟨rfl,hb⟩
 have S2 := Lib.hid (S1.out.next hb)
 clear hb
 refine hK.out _ _ ?_ (fun hHeld => ?_)
 · exact S2.out.pick [0] (by decide)
 clear hK K
 try simp only [sx]
 refine tkP 3 rfl hHeld ?_
 try simp only [sx]
 refine rdH 6 rfl fun K hK => ?_
 go_simp
 refine (ITY.out w2 S2.out.below).mono ?_
 rintro e w3 ⟨rfl,hb⟩
 have S3 := Lib.hid (S2.out.next hb)
 clear hb
 refine hK.out _ _ ?_ (fun hHeld => ?_)
 · exact S3.out.pick [0] (by decide)
 clear hK K
 try simp only [sx]
 refine tkP 7 rfl hHeld ?_
 try simp only [sx]
 refine tkP 8 rfl hHeld ?_
 try simp only [sx]
 refine wpAnyH_done (by kernel_rfl) ?_ _
 go_wp2_with fail
 go_ret
 exact ⟨rfl,S3.out.below⟩
set_option maxHeartbeats 2000000 in
theorem markP_c (nc nx ny bx by_ : Nat) (a b : Au) (fc : Nat) (lbc : Array Value) (ec : ∀ args w,(callFunc fc args).run Tryd.prog w = .ok (.enter fc args) w) (ch : Bool → Bool → Bool) (v : Int × Int) (w : World)
 (c1 : w.cell? ⟨nc,0,none⟩ = some (.func (.func fc) #[] lbc)) (c2 : w.cell? ⟨nx,0,none⟩ = some (.pointer (some ⟨bx,0,none⟩))) (c3 : w.cell? ⟨ny,0,none⟩ = some (.pointer (some ⟨by_,0,none⟩)))
 (znc : nc < w.heap.size) (znx : nx < w.heap.size) (zny : ny < w.heap.size) (h1 : Mach w bx a) (h2 : Mach w by_ b) (hch : ∀ p q V,Calls Tryd.prog fc (#[.bool p,.bool q] ++ lbc) V (Ret (.bool (ch p q)) V)) :
 Calls Tryd.prog 77 #[.agg #[.int .i64 v.1,.int .i64 v.2],.pointer (some ⟨nc,0,none⟩),.pointer (some ⟨nx,0,none⟩),.pointer (some ⟨ny,0,none⟩)] w (Ret (.bool (ch (inV a v.1 2) (inV b v.2 2))) w) := by
 have C1 := Lib.hid c1
 have C2 := Lib.hid c2
 have C3 := Lib.hid c3
 have H1 := Lib.hid h1
 have H2 := Lib.hid h2
 have HC := Lib.hid hch
 clear c1 c2 c3 h1 h2 hch
 obtain ⟨x,y⟩ := v
 dsimp only
 go_enter Tryd.func77,Tryd.ntmps77
 go_upto_region 1 with fail
 refine wp_world (fun W => Sep w.heap.size w [eBlk w.heap.size 75 [.int .i64 x,.int .i64 y]] W) ((Sep.here w).alloc' _ [_,_] rfl rfl) fun W S => ?_
 have S0 := Lib.hid S
 clear S
 have S4 := Lib.hid S0.out.drew
 refine wp_region_held_drew (S := (fun V => Sep w.heap.size w [eBlk w.heap.size 75 [.int .i64 x,.int .i64 y]] V)) (by kernel_rfl) ?_ (fun hHeld => ?_)
 · exact S4.out.pick [0] (by decide)
 generalize hwz : W.drew = w4 at *
 clear hwz
 refine tkH 0 rfl (v := ?_) (by kernel_rfl) ?_ hHeld ?_
 rotate_left
 · intro V hSw
   have d1 := ((show Sep w.heap.size w _ V from hSw).below.cell (p := ⟨nc,0,none⟩) znc).trans C1.out
   clear hSw
   first | (go_simp; done) | (go_simp; with_reducible rfl)
 try simp only [sx]
 refine tkH 1 rfl (v := ?_) (by kernel_rfl) ?_ hHeld ?_
 rotate_left
 · intro V hSw
   have d2 := ((show Sep w.heap.size w _ V from hSw).below.cell (p := ⟨nx,0,none⟩) znx).trans C2.out
   clear hSw
   first | (go_simp; done) | (go_simp; with_reducible rfl)
 try simp only [sx]
 refine tkP 2 rfl hHeld ?_
 try simp only [sx]
 refine tkH 3 rfl (v := ?_) (by kernel_rfl) ?_ hHeld ?_
 rotate_left
 · intro V hSw
   have b0 := ckC hSw 0 rfl 0 rfl
   clear hSw
   first | (go_simp; done) | (go_simp; with_reducible rfl)
 try simp only [sx]
 refine tkH 5 rfl (v := ?_) (by kernel_rfl) ?_ hHeld ?_
 rotate_left
 · intro V hSw
   have d3 := ((show Sep w.heap.size w _ V from hSw).below.cell (p := ⟨ny,0,none⟩) zny).trans C3.out
   clear hSw
   first | (go_simp; done) | (go_simp; with_reducible rfl)
 try simp only [sx]
 refine tkP 6 rfl hHeld ?_
 try simp only [sx]
 refine tkH 7 rfl (v := ?_) (by kernel_rfl) ?_ hHeld ?_
 rotate_left
 · intro V hSw
   have b1 := ckC hSw 0 rfl 1 rfl
   clear hSw
   first | (go_simp; done) | (go_simp; with_reducible rfl)
 try simp only [sx]
 refine rdH 4 rfl fun K hK => ?_
 go_simp
 refine (min_c bx a x 2 w4 (H1.out.below S4.out.below)).mono ?_
 rintro e w5 ⟨rfl,hw⟩
 have S5 : Hid (Sep w.heap.size w [eBlk w.heap.size 75 [.int .i64 x,.int .i64 y]] w5) := by rw [← hw]; exact S4.out
 clear hw
 refine hK.out _ _ ?_ (fun hHeld => ?_)
 · exact S5.out.pick [0] (by decide)
 clear hK K
 try simp only [sx]
 refine rdH 8 rfl fun K hK => ?_
 go_simp
 refine (min_c by_ b y 2 w5 (H2.out.below S5.out.below)).mono ?_
 rintro e w6 ⟨rfl,hw⟩
 have S6 : Hid (Sep w.heap.size w [eBlk w.heap.size 75 [.int .i64 x,.int .i64 y]] w6) := by rw [← hw]; exact S5.out
 clear hw
 refine hK.out _ _ ?_ (fun hHeld => ?_)
 · exact S6.out.pick [0] (by decide)
 clear hK K
 try simp only [sx]
 refine rdH 9 rfl fun K hK => ?_
 go_simp
 refine (HC.out (inV a x 2) (inV b y 2) w6).mono ?_
 rintro e w7 ⟨rfl,hb⟩
 have S7 := Lib.hid (S6.out.next hb)
 clear hb
 refine hK.out _ _ ?_ (fun hHeld => ?_)
 · exact S7.out.pick [0] (by decide)
 clear hK K
 try simp only [sx]
 refine tkP 10 rfl hHeld ?_
 try simp only [sx]
 refine wpAnyH_done (by kernel_rfl) ?_ _
 go_wp2_with fail
 go_ret
 exact ⟨rfl,S7.out.below⟩
set_option maxHeartbeats 2000000 in
theorem nextP_c (nx ny bx by_ : Nat) (a b : Au) (v : Int × Int) (e : Int) (w : World) (c2 : w.cell? ⟨nx,0,none⟩ = some (.pointer (some ⟨bx,0,none⟩))) (c3 : w.cell? ⟨ny,0,none⟩ = some (.pointer (some ⟨by_,0,none⟩)))
 (znx : nx < w.heap.size) (zny : ny < w.heap.size) (h1 : Mach w bx a) (h2 : Mach w by_ b) :
 Calls Tryd.prog 78 #[.agg #[.int .i64 v.1,.int .i64 v.2],.int .i64 e,.pointer (some ⟨nx,0,none⟩),.pointer (some ⟨ny,0,none⟩)] w (Ret (pv (stp2 a b v e)) w) := by
 have C2 := Lib.hid c2
 have C3 := Lib.hid c3
 have H1 := Lib.hid h1
 have H2 := Lib.hid h2
 clear c2 c3 h1 h2
 obtain ⟨x,y⟩ := v
 dsimp only [pv,stp2]
 go_enter Tryd.func78,Tryd.ntmps78
 go_upto_region 1 with fail
 refine wp_world (fun W => Sep w.heap.size w [eBlk (w.heap.size + 1) 75 [.int .i64 0,.int .i64 0],eBlk w.heap.size 75 [.int .i64 x,.int .i64 y]] W) (((Sep.here w).alloc' _ [_,_] rfl rfl).alloc' _ [_,_] rfl (by simp)) fun W S => ?_
 have S0 := Lib.hid S
 clear S
 have S8 := Lib.hid S0.out.drew
 refine wp_region_held_drew (S := (fun V => Sep w.heap.size w [eBlk w.heap.size 75 [.int .i64 x,.int .i64 y]] V)) (by kernel_rfl) ?_ (fun hHeld => ?_)
 · exact S8.out.pick [1] (by decide)
 generalize hwz : W.drew = w8 at *
 clear hwz
 refine tkH 0 rfl (v := ?_) (by kernel_rfl) ?_ hHeld ?_
 rotate_left
 · intro V hSw
   have d2 := ((show Sep w.heap.size w _ V from hSw).below.cell (p := ⟨nx,0,none⟩) znx).trans C2.out
   clear hSw
   first | (go_simp; done) | (go_simp; with_reducible rfl)
 try simp only [sx]
 refine tkP 1 rfl hHeld ?_
 try simp only [sx]
 refine tkH 2 rfl (v := ?_) (by kernel_rfl) ?_ hHeld ?_
 rotate_left
 · intro V hSw
   have b0 := ckC hSw 0 rfl 0 rfl
   clear hSw
   first | (go_simp; done) | (go_simp; with_reducible rfl)
 try simp only [sx]
 refine tkP 3 rfl hHeld ?_
 try simp only [sx]
 refine tkH 5 rfl (v := ?_) (by kernel_rfl) ?_ hHeld ?_
 rotate_left
 · intro V hSw
   have d3 := ((show Sep w.heap.size w _ V from hSw).below.cell (p := ⟨ny,0,none⟩) zny).trans C3.out
   clear hSw
   first | (go_simp; done) | (go_simp; with_reducible rfl)
 try simp only [sx]
 refine tkP 6 rfl hHeld ?_
 try simp only [sx]
 refine tkH 7 rfl (v := ?_) (by kernel_rfl) ?_ hHeld ?_
 rotate_left
 · intro V hSw
   have b1 := ckC hSw 0 rfl 1 rfl
   clear hSw
   first | (go_simp; done) | (go_simp; with_reducible rfl)
 try simp only [sx]
 refine tkP 8 rfl hHeld ?_
 try simp only [sx]
 refine rdH 4 rfl fun K hK => ?_
 go_simp
 refine (mstep_c bx a x e w8 (H1.out.below S8.out.below)).mono ?_
 rintro e w9 ⟨rfl,hw⟩
 have S9 : Hid (Sep w.heap.size w [eBlk (w.heap.size + 1) 75 [.int .i64 0,.int .i64 0],eBlk w.heap.size 75 [.int .i64 x,.int .i64 y]] w9) := by rw [← hw]; exact S8.out
 clear hw
 refine hK.out _ _ ?_ (fun hHeld => ?_)
 · exact S9.out.pick [1] (by decide)
 clear hK K
 try simp only [sx]
 refine rdH 9 rfl fun K hK => ?_
 go_simp
 refine (mstep_c by_ b y e w9 (H2.out.below S9.out.below)).mono ?_
 rintro e w10 ⟨rfl,hw⟩
 have S10 : Hid (Sep w.heap.size w [eBlk (w.heap.size + 1) 75 [.int .i64 0,.int .i64 0],eBlk w.heap.size 75 [.int .i64 x,.int .i64 y]] w10) := by rw [← hw]; exact S9.out
 clear hw
 refine hK.out _ _ ?_ (fun hHeld => ?_)
 · exact S10.out.pick [1] (by decide)
 clear hK K
 try simp only [sx]
 refine tkP 10 rfl hHeld ?_
 try simp only [sx]
 refine rdH 11 rfl fun K hK => ?_
 have sc0 := ckC S10.out 0 rfl 0 rfl
 have sf0 := BlkAt.free (S10.out.get 0 rfl) 0
 have sc1 := ckC S10.out 0 rfl 1 rfl
 have sf1 := BlkAt.free (S10.out.get 0 rfl) 1
 try dsimp only [Au.val] at *
 go_simp
 obtain ⟨w11,hw11⟩ : ∃ v,v = ((w10.setCell ⟨w.heap.size + 1,0,none⟩ (.int .i64 (toV (stepOf a.ed) x e))).setCell ⟨w.heap.size + 1,1,none⟩ (.int .i64 (toV (stepOf b.ed) y e))) := ⟨_,rfl⟩
 rw [← hw11]
 have S11 : Hid (Sep w.heap.size w [eBlk (w.heap.size + 1) 75 [.int .i64 (toV (stepOf a.ed) x e),.int .i64 (toV (stepOf b.ed) y e)],eBlk w.heap.size 75 [.int .i64 x,.int .i64 y]] w11) := by rw [hw11]; exact ((S10.out.set 0 rfl 0 (.int .i64 (toV (stepOf a.ed) x e))).set 0 rfl 1 (.int .i64 (toV (stepOf b.ed) y e)))
 clear hw11 sc0 sf0 sc1 sf1
 refine hK.out _ _ ?_ (fun hHeld => ?_)
 · exact S11.out.pick [1] (by decide)
 clear hK K
 try simp only [sx]
 refine wpAnyH_done (by kernel_rfl) ?_ _
 have r0 := ckC S11.out 0 rfl 0 rfl
 have r1 := ckC S11.out 0 rfl 1 rfl
 go_wp2_with fail
 refine bodyPost_ret (v := .agg #[.int .i64 (toV (stepOf a.ed) x e),.int .i64 (toV (stepOf b.ed) y e)]) (by simp [results,Tryd.results78,go_sem, *]) rfl ?_
 exact ⟨rfl,S11.out.below⟩
end Go.Proofs.YtkifgffhoenaoaaDoor
