/-
  What the row leans on.
-/
import Derived.Test.YtkifgffhoenaoaaGreatDoorBas01
import Derived.Test.YtkifgffhoenaoaaGreatDoorQqx03
import Derived.Test.YtkifgffhoenaoaaGreatDoorQqx04
import Derived.Test.YtkifgffhoenaoaaGreatDoorQqx02
set_option linter.unusedSimpArgs false
set_option linter.unusedVariables false
namespace Go.Proofs.YtkifgffhoenaoaaGreatDoor
open Go.RowKit
set_option maxRecDepth 100000
set_option maxHeartbeats 8000000 in
theorem alike_c (a : Au) (p : AuP) (AC : Option Addr) (cC : Nat) (c : List Int) (i k : Nat) (w : World) (hr : a.Right) (hA : Au.At w a p) (hC : IntsAt w AC c) (hl : c.length = a.n.toNat) (hi : (i : Int) < a.n) (hk : (k : Int) < a.n) :
 Calls Tryz.prog 122 #[a.val p,.slice AC c.length cC,.int .i64 ↑i,.int .i64 ↑k] w (Tells (keyC a c i = keyC a c k) w) := by
 have HR := Lib.hid hr;have HA := Lib.hid hA;have HC := Lib.hid hC;have hn := hr.n1;have hal : a.al.length ≤ 32 := by simpa using hr.al.short
 obtain ⟨al,n,mr,ed⟩ := a;obtain ⟨A1,c1,A2,c2,A3,c3⟩ := p;(try dsimp only [Au.val] at *);have hic : i < c.length := by omega
 have hkc : k < c.length := by omega
 obtain ⟨bC,oC,x,rfl,hbi,hx,ci⟩ := IntsAt.at HC.out hic;obtain ⟨y,hy,ck⟩ := IntsAt.more HC.out hkc;have hbk := hbi;have HL := Lib.hid hl;have HXi := Lib.hid (getD_of hx);have HYk := Lib.hid (getD_of hy);clear hr hA hC hx hy hl;go_enter Tryz.func122,Tryz.ntmps122
 go_upto_region 1 with fail
 refine wp_world (fun W => Sep w.heap.size w [eBlk w.heap.size 31 [.slice A1 al.length c1,.int .i64 n,.slice A2 mr.length c2,.slice A3 ed.length c3]] W) ?_ fun W1 S => ?_
 · exact (Sep.here w).alloc' _ [_,_,_,_] rfl rfl
 have S0 := Lib.hid S;clear S;go_cut [31] (fun v wx => ∃ b : Bool,v = .bool b ∧ Hid (b = false ↔ x = y ∧ ((i : Int) ∈ mr ↔ (k : Int) ∈ mr)) ∧ (SepW w [eBlk w.heap.size 31 [.slice A1 al.length c1,.int .i64 n,.slice A2 mr.length c2,.slice A3 ed.length c3]] wx))
 case first =>
  by_cases hxy : x = y
  · subst hxy;have hq : (x != x) = false := by simp
    have HQ1 : ∀ {bi bk : Bool},(bi = true ↔ (i : Int) ∈ mr) → (bk = true ↔ (k : Int) ∈ mr) → Hid ((bi != bk) = false ↔ x = x ∧ ((i : Int) ∈ mr ↔ (k : Int) ∈ mr)) := fun {bi bk} h1 h2 => by
     rw [Hid,← h1,← h2];cases bi <;> cases bk <;> simp
    have S1 := Lib.hid S0.out.drew;refine wp_region_held_drew (S := (fun V => Sep w.heap.size w [eBlk w.heap.size 31 [.slice A1 al.length c1,.int .i64 n,.slice A2 mr.length c2,.slice A3 ed.length c3]] V)) (by kernel_rfl) ?_ (fun hH => ?_)
    · exact S1.out.pick [0] (by decide)
    generalize hwz : W1.drew = w1 at *;clear hwz;refine tkP 0 rfl (v := ?_) hH ?_;(try simp only [sx]);refine tkP 1 rfl (v := ?_) hH ?_;(try simp only [sx]);refine tkP 2 rfl (v := ?_) hH ?_;(try simp only [sx]);refine tkH 3 rfl (v := ?_) (by kernel_rfl) ?_ hH ?_;rotate_left
    · intro V hs_;have bo := old_cell (show Sep w.heap.size w _ V from hs_).below ci hbi;clear hs_;first | (go_simp; done) | (go_simp; with_reducible rfl)
    (try simp only [sx]);refine tkP 4 rfl (v := ?_) hH ?_;(try simp only [sx]);refine tkP 5 rfl (v := ?_) hH ?_;(try simp only [sx]);refine tkP 6 rfl (v := ?_) hH ?_;(try simp only [sx]);refine tkH 7 rfl (v := ?_) (by kernel_rfl) ?_ hH ?_;rotate_left
    · intro V hs_;have bo := old_cell (show Sep w.heap.size w _ V from hs_).below ck hbk;clear hs_;first | (go_simp; done) | (go_simp; with_reducible rfl)
    (try simp only [sx]);refine tkP 8 rfl (v := ?_) hH ?_;(try simp only [sx]);refine tkP 9 rfl (v := ?_) hH ?_;(try simp only [sx]);refine tkH 10 rfl (v := ?_) (by kernel_rfl) ?_ hH ?_;rotate_left
    · intro V hs_;have a0 := ckC hs_ 0 rfl 0 rfl;have a1 := ckC hs_ 0 rfl 1 rfl;have a2 := ckC hs_ 0 rfl 2 rfl;have a3 := ckC hs_ 0 rfl 3 rfl;clear hs_;first | (go_simp; done) | (go_simp; with_reducible rfl)
    (try simp only [sx]);refine tkP 11 rfl (v := ?_) hH ?_;(try simp only [sx]);refine tkH 13 rfl (v := ?_) (by kernel_rfl) ?_ hH ?_;rotate_left
    · intro V hs_;have a0 := ckC hs_ 0 rfl 0 rfl;have a1 := ckC hs_ 0 rfl 1 rfl;have a2 := ckC hs_ 0 rfl 2 rfl;have a3 := ckC hs_ 0 rfl 3 rfl;clear hs_;first | (go_simp; done) | (go_simp; with_reducible rfl)
    (try simp only [sx]);refine tkP 14 rfl (v := ?_) hH ?_;(try simp only [sx]);refine rdH 12 rfl fun K hK => ?_;go_simp;refine (marked9_c ⟨al,n,mr,ed⟩ ⟨A1,c1,A2,c2,A3,c3⟩ i w1 (HA.out.below S1.out.below).mr HA.out.lmk).mono ?_;rintro e' w2 ⟨bi,rfl,hbi,hb⟩;have Bi := Lib.hid hbi;have S2 := Lib.hid (S1.out.next hb);clear hb hbi;refine hK.out _ _ (S2.out.pick [0] (by decide)) fun hH => ?_;clear hK K;(try simp only [sx]);refine rdH 15 rfl fun K hK => ?_;go_simp;refine (marked9_c ⟨al,n,mr,ed⟩ ⟨A1,c1,A2,c2,A3,c3⟩ k w2 (HA.out.below S2.out.below).mr HA.out.lmk).mono ?_;rintro e' w3 ⟨bk,rfl,hbk,hb⟩;have Bk := Lib.hid hbk;have S3 := Lib.hid (S2.out.next hb);clear hb hbk;refine hK.out _ _ (S3.out.pick [0] (by decide)) fun hH => ?_;clear hK K;(try simp only [sx]);refine tkP 16 rfl (v := ?_) hH ?_;(try simp only [sx]);refine tkP 17 rfl (v := ?_) hH ?_;(try simp only [sx]);refine wpAnyH_done (by kernel_rfl) ?_ _;go_wp2_with fail
    go_meet
    exact ⟨(bi != bk),rfl,HQ1 Bi.out Bk.out,S3.out⟩
  · have hq : (x != y) = true := by simpa using hxy
    have hq2 : (x == y) = false := by simpa using hxy
    have HQ2 : Hid (true = false ↔ x = y ∧ ((i : Int) ∈ mr ↔ (k : Int) ∈ mr)) := Iff.intro (fun h => nomatch h) (fun h => absurd h.1 hxy);clear hxy;have S4 := Lib.hid S0.out.drew;refine wp_region_held_drew (S := (fun V => Sep w.heap.size w [eBlk w.heap.size 31 [.slice A1 al.length c1,.int .i64 n,.slice A2 mr.length c2,.slice A3 ed.length c3]] V)) (by kernel_rfl) ?_ (fun hH => ?_)
    · exact S4.out.pick [0] (by decide)
    generalize hwz : W1.drew = w4 at *;clear hwz;refine tkP 0 rfl (v := ?_) hH ?_;(try simp only [sx]);refine tkP 1 rfl (v := ?_) hH ?_;(try simp only [sx]);refine tkP 2 rfl (v := ?_) hH ?_;(try simp only [sx]);refine tkH 3 rfl (v := ?_) (by kernel_rfl) ?_ hH ?_;rotate_left
    · intro V hs_;have bo := old_cell (show Sep w.heap.size w _ V from hs_).below ci hbi;clear hs_;first | (go_simp; done) | (go_simp; with_reducible rfl)
    (try simp only [sx]);refine tkP 4 rfl (v := ?_) hH ?_;(try simp only [sx]);refine tkP 5 rfl (v := ?_) hH ?_;(try simp only [sx]);refine tkP 6 rfl (v := ?_) hH ?_;(try simp only [sx]);refine tkH 7 rfl (v := ?_) (by kernel_rfl) ?_ hH ?_;rotate_left
    · intro V hs_;have bo := old_cell (show Sep w.heap.size w _ V from hs_).below ck hbk;clear hs_;first | (go_simp; done) | (go_simp; with_reducible rfl)
    (try simp only [sx]);refine tkP 8 rfl (v := ?_) hH ?_;(try simp only [sx]);refine tkP 9 rfl (v := ?_) hH ?_;(try simp only [sx]);refine wpAnyH_take (i := 10) (v := undef) rfl (by kernel_rfl) (by kernel_rfl) (by kernel_rfl) (fun _ _ _ h => h) (Or.inr ⟨?_,rfl⟩) hH ?_
    · kernel_rfl
    (try simp only [sx]);refine wpAnyH_take (i := 11) (v := undef) rfl (by kernel_rfl) (by kernel_rfl) (by kernel_rfl) (fun _ _ _ h => h) (Or.inr ⟨?_,rfl⟩) hH ?_
    · kernel_rfl
    (try simp only [sx]);refine wpAnyH_take (i := 12) (v := undef) rfl (by kernel_rfl) (by kernel_rfl) (by kernel_rfl) (fun _ _ _ h => h) (Or.inr ⟨?_,rfl⟩) hH ?_
    · kernel_rfl
    (try simp only [sx]);refine wpAnyH_take (i := 13) (v := undef) rfl (by kernel_rfl) (by kernel_rfl) (by kernel_rfl) (fun _ _ _ h => h) (Or.inr ⟨?_,rfl⟩) hH ?_
    · kernel_rfl
    (try simp only [sx]);refine wpAnyH_take (i := 14) (v := undef) rfl (by kernel_rfl) (by kernel_rfl) (by kernel_rfl) (fun _ _ _ h => h) (Or.inr ⟨?_,rfl⟩) hH ?_
    · kernel_rfl
    (try simp only [sx]);refine wpAnyH_take (i := 15) (v := undef) rfl (by kernel_rfl) (by kernel_rfl) (by kernel_rfl) (fun _ _ _ h => h) (Or.inr ⟨?_,rfl⟩) hH ?_
    · kernel_rfl
    (try simp only [sx]);refine wpAnyH_take (i := 16) (v := undef) rfl (by kernel_rfl) (by kernel_rfl) (by kernel_rfl) (fun _ _ _ h => h) (Or.inr ⟨?_,rfl⟩) hH ?_
    · kernel_rfl
    (try simp only [sx]);refine tkP 17 rfl (v := ?_) hH ?_;(try simp only [sx]);refine wpAnyH_done (by kernel_rfl) ?_ _;go_wp2_with fail
    go_meet
    exact ⟨true,rfl,HQ2,S4.out⟩
 case rest =>
  clear S0;obtain ⟨b,rfl,HB,S⟩ := hcut;cases b
  · have HB2 := Lib.hid (HB.out.1 rfl);clear HB;go_wp2_with fail
    go_loopw [9,10,11,12,13] (fun v _ _ _ _ wr => ∃ t : Nat,v = .int .i64 ↑t ∧ t ≤ al.length ∧ Hid (∀ ev,ev ∈ al.take t → clsI c (nextV ed (i : Int) ev) = clsI c (nextV ed (k : Int) ev)) ∧ (SepW w [eBlk w.heap.size 31 [.slice A1 al.length c1,.int .i64 n,.slice A2 mr.length c2,.slice A3 ed.length c3]] wr)) (fun v _ _ _ _ _ => al.length - (intOf v).toNat)
    case atStart => exact ⟨0,rfl,Nat.zero_le _,fun ev h => by simp at h,S.out⟩
    case round =>
     clear S;obtain ⟨t,rfl,ht,HE,S⟩ := hrel;have a0 := ckC S.out 0 rfl 0 rfl;by_cases htl : t < al.length
     · obtain ⟨bL,oL,ev,rfl,hbe,hev,ce⟩ := IntsAt.at HA.out.al htl;have HT : Hid (al.take (t + 1) = al.take t ++ [ev]) := by rw [Hid,List.take_add_one,hev]; rfl
       obtain ⟨tx,htx⟩ : ∃ t,toV (stepOf ed) (i : Int) ev = t := ⟨_,rfl⟩;obtain ⟨ty,hty⟩ : ∃ t,toV (stepOf ed) (k : Int) ev = t := ⟨_,rfl⟩;have HTX := Lib.hid htx;have HTY := Lib.hid hty;have hnx : nextV ed (i : Int) ev = tx := (HR.out.next (i : Int) ev).trans htx;have hny : nextV ed (k : Int) ev = ty := (HR.out.next (k : Int) ev).trans hty;have cx : tx = -1 ∨ 0 ≤ tx ∧ tx < n := by have h := Pre.key.next_rg HR.out (i : Int) ev; simp only at h; rw [hnx] at h; exact h
       have cy : ty = -1 ∨ 0 ≤ ty ∧ ty < n := by have h := Pre.key.next_rg HR.out (k : Int) ev; simp only at h; rw [hny] at h; exact h
       have HNX := Lib.hid hnx;have HNY := Lib.hid hny;clear htx hty hnx hny hev;go_upto_region 6 with fail
       go_cut [10,11] (fun x y wx => x = .int .i64 tx ∧ y = .int .i64 ty ∧ (SepW w [eBlk w.heap.size 31 [.slice (some ⟨bL,oL,none⟩) al.length c1,.int .i64 n,.slice A2 mr.length c2,.slice A3 ed.length c3]] wx))
       case first =>
        have S5 := Lib.hid S.out.drew;refine wp_region_held_drew (S := (fun V => Sep w.heap.size w [eBlk w.heap.size 31 [.slice (some ⟨bL,oL,none⟩) al.length c1,.int .i64 n,.slice A2 mr.length c2,.slice A3 ed.length c3]] V)) (by kernel_rfl) ?_ (fun hH => ?_)
        · exact S5.out.pick [0] (by decide)
        generalize hwz : wr.drew = w5 at *;clear hwz;refine tkH 0 rfl (v := ?_) (by kernel_rfl) ?_ hH ?_;rotate_left
        · intro V hs_;have a0 := ckC hs_ 0 rfl 0 rfl;have a1 := ckC hs_ 0 rfl 1 rfl;have a2 := ckC hs_ 0 rfl 2 rfl;have a3 := ckC hs_ 0 rfl 3 rfl;clear hs_;first | (go_simp; done) | (go_simp; with_reducible rfl)
        (try simp only [sx]);refine tkP 1 rfl (v := ?_) hH ?_;(try simp only [sx]);refine tkP 2 rfl (v := ?_) hH ?_;(try simp only [sx]);refine tkH 3 rfl (v := ?_) (by kernel_rfl) ?_ hH ?_;rotate_left
        · intro V hs_;have a0 := ckC hs_ 0 rfl 0 rfl;clear hs_;first | (go_simp; done) | (go_simp; with_reducible rfl)
        (try simp only [sx]);refine tkP 4 rfl (v := ?_) hH ?_;(try simp only [sx]);refine tkP 5 rfl (v := ?_) hH ?_;(try simp only [sx]);refine tkH 6 rfl (v := ?_) (by kernel_rfl) ?_ hH ?_;rotate_left
        · intro V hs_;have bo := old_cell (show Sep w.heap.size w _ V from hs_).below ce hbe;clear hs_;first | (go_simp; done) | (go_simp; with_reducible rfl)
        (try simp only [sx]);refine tkH 8 rfl (v := ?_) (by kernel_rfl) ?_ hH ?_;rotate_left
        · intro V hs_;have a0 := ckC hs_ 0 rfl 0 rfl;have a1 := ckC hs_ 0 rfl 1 rfl;have a2 := ckC hs_ 0 rfl 2 rfl;have a3 := ckC hs_ 0 rfl 3 rfl;clear hs_;first | (go_simp; done) | (go_simp; with_reducible rfl)
        (try simp only [sx]);refine tkP 9 rfl (v := ?_) hH ?_;(try simp only [sx]);refine tkP 10 rfl (v := ?_) hH ?_;(try simp only [sx]);refine tkH 11 rfl (v := ?_) (by kernel_rfl) ?_ hH ?_;rotate_left
        · intro V hs_;have a0 := ckC hs_ 0 rfl 0 rfl;clear hs_;first | (go_simp; done) | (go_simp; with_reducible rfl)
        (try simp only [sx]);refine tkP 12 rfl (v := ?_) hH ?_;(try simp only [sx]);refine tkP 13 rfl (v := ?_) hH ?_;(try simp only [sx]);refine tkH 14 rfl (v := ?_) (by kernel_rfl) ?_ hH ?_;rotate_left
        · intro V hs_;have bo := old_cell (show Sep w.heap.size w _ V from hs_).below ce hbe;clear hs_;first | (go_simp; done) | (go_simp; with_reducible rfl)
        (try simp only [sx]);refine rdH 7 rfl fun K hK => ?_;go_simp;refine (step9_e ⟨al,n,mr,ed⟩ ⟨some ⟨bL,oL,none⟩,c1,A2,c2,A3,c3⟩ (i : Int) ev tx w5 HR.out (HA.out.below S5.out.below).ed HA.out.led HTX.out).mono ?_;rintro e w6 ⟨rfl,hb⟩;have S6 := Lib.hid (S5.out.next hb);clear hb;refine hK.out _ _ (S6.out.pick [0] (by decide)) fun hH => ?_;clear hK K;(try simp only [sx]);refine rdH 15 rfl fun K hK => ?_;go_simp;refine (step9_e ⟨al,n,mr,ed⟩ ⟨some ⟨bL,oL,none⟩,c1,A2,c2,A3,c3⟩ (k : Int) ev ty w6 HR.out (HA.out.below S6.out.below).ed HA.out.led HTY.out).mono ?_;rintro e w7 ⟨rfl,hb⟩;have S7 := Lib.hid (S6.out.next hb);clear hb;refine hK.out _ _ (S7.out.pick [0] (by decide)) fun hH => ?_;clear hK K;(try simp only [sx]);refine tkP 16 rfl (v := ?_) hH ?_;(try simp only [sx]);refine tkP 17 rfl (v := ?_) hH ?_;(try simp only [sx]);refine wpAnyH_done (by kernel_rfl) ?_ _;go_wp2_with fail
        go_meet
        exact ⟨rfl,rfl,S7.out⟩
       case rest =>
        clear S a0;obtain ⟨rfl,rfl,S⟩ := hcut;have val : ∀ z : Int,(z = -1 ∨ 0 ≤ z ∧ z < n) → (¬ 0 ≤ z ∧ clsI c z = 0) ∨ (0 ≤ z ∧ ∃ m : Nat,z = (m : Int) ∧ m < c.length ∧ wc.cell? ⟨bC,oC + m,none⟩ = some (.int .i64 (clsI c z))) := fun z hz => by
         rcases hz with rfl | hz
         · exact .inl ⟨by omega,rfl⟩
         · obtain ⟨m,rfl⟩ := Int.eq_ofNat_of_zero_le hz.1;have hm : m < c.length := by have := HL.out; omega
           obtain ⟨u,hu,cu⟩ := IntsAt.more HC.out hm;refine .inr ⟨hz.1,m,rfl,hm,?_⟩;have : clsI c (m : Int) = u := by unfold clsI; rw [if_pos hz.1,Int.toNat_natCast]; exact getD_of hu
           rw [this];exact old_cell S.out.below cu hbi
        have vx := val tx cx;have vy := val ty cy;obtain ⟨px,hpx⟩ : ∃ p,clsI c tx = p := ⟨_,rfl⟩;obtain ⟨py,hpy⟩ : ∃ p,clsI c ty = p := ⟨_,rfl⟩;rw [hpx] at vx;rw [hpy] at vy;have HPX := Lib.hid hpx;have HPY := Lib.hid hpy;clear val cx cy hpx hpy;have fin : Hid (px = py → ∀ e,e ∈ al.take (t + 1) → clsI c (nextV ed (i : Int) e) = clsI c (nextV ed (k : Int) e)) := fun h e he => by
         rw [HT.out] at he;rcases List.mem_append.1 he with g | g
         · exact HE.out e g
         · rw [List.mem_singleton.1 g,HNX.out,HNY.out,HPX.out,HPY.out,h]
        have bad : Hid (px ≠ py → ¬ keyC ⟨al,n,mr,ed⟩ c i = keyC ⟨al,n,mr,ed⟩ c k) := fun h e => by
         have h3 := (Prod.mk.inj (Prod.mk.inj e).2).2;have hm : ev ∈ al := List.mem_of_mem_take (i := t + 1) (by rw [HT.out]; simp);have := List.map_inj_left.1 h3 ev hm;simp only at this
         rw [HNX.out,HNY.out,HPX.out,HPY.out] at this;exact h this
        clear HE HT HTX HTY HNX HNY HPX HPY;by_cases hpq : px = py
        · have HF := Lib.hid (fin.out hpq);subst hpq;have hq : (px != px) = false := by simp
          clear fin bad;rcases vx with ⟨g1,rfl⟩ | ⟨g1,m1,rfl,l1,e1⟩ <;> rcases vy with ⟨g2,h2⟩ | ⟨g2,m2,rfl,l2,e2⟩
          all_goals
           (try subst h2);go_wp2_with fail
           go_roundw
           case rel => exact ⟨t + 1,by go_num,by omega,HF.out,S.out⟩
           case measure => simp [intOf]; omega
        · have HF := Lib.hid (bad.out hpq);have hq : (px != py) = true := by simpa using hpq
          have hq2 : (px == py) = false := by simpa using hpq
          clear fin bad hpq;rcases vx with ⟨g1,rfl⟩ | ⟨g1,m1,rfl,l1,e1⟩ <;> rcases vy with ⟨g2,rfl⟩ | ⟨g2,m2,rfl,l2,e2⟩
          all_goals first | exact absurd hq (by decide) | skip
          all_goals
           go_wp2_with fail
           go_ret
           exact Tells.no HF.out S.out.below
     · obtain rfl : t = al.length := by omega
       have HK : Hid (keyC ⟨al,n,mr,ed⟩ c i = keyC ⟨al,n,mr,ed⟩ c k) := by
        unfold keyC
        have hm : ((i : Int) ∈ mr) = ((k : Int) ∈ mr) := propext HB2.out.2;rw [Hid,HXi.out,HYk.out,HB2.out.1];simp only [hm];congr 2
        have h := HE.out;rw [List.take_length] at h;exact List.map_congr_left h
       clear HE;go_wp2_with fail
       go_ret
       exact Tells.yes HK.out S.out.below
  · have HF : Hid (¬ keyC ⟨al,n,mr,ed⟩ c i = keyC ⟨al,n,mr,ed⟩ c k) := fun e => by
     have h1 := (Prod.mk.inj e).1;have h2 := (Prod.mk.inj (Prod.mk.inj e).2).1;rw [HXi.out,HYk.out] at h1;have := HB.out.2 ⟨h1,by simpa using h2⟩;cases this
    clear HB;go_wp2_with fail
    go_ret
    exact Tells.no HF.out S.out.below
def iv (l : List Int) : List Value := l.map (Value.int .i64)
theorem iv_set (A : List Int) (x y : Int) (B : List Int) (i : Nat) (h : A.length = i) : (iv (A ++ x :: B)).set i (.int .i64 y) = iv (A ++ y :: B) := by
 subst h;unfold iv
 rw [List.map_append,List.map_append,List.map_cons,List.map_cons];rw [List.set_append_right _ _ (by simp)];simp
theorem iv_get {l : List Int} {i : Nat} {x : Int} (h : l[i]? = some x) : (iv l)[i]? = some (.int .i64 x) := by unfold iv; rw [List.getElem?_map,h]; rfl
theorem iv_mid (A : List Int) (x : Int) (B : List Int) (i : Nat) (h : A.length = i) : (iv (A ++ x :: B))[i]? = some (.int .i64 x) := iv_get (by subst h; simp)
theorem iv_pre {A : List Int} {i : Nat} {x : Int} (h : A[i]? = some x) (B : List Int) : (iv (A ++ B))[i]? = some (.int .i64 x) := iv_get (by rw [List.getElem?_append_left (List.getElem?_eq_some_iff.1 h).1]; exact h)
theorem cntO_le {κ : Type} [DecidableEq κ] : ∀ l : List (Option κ),cntO l ≤ l.length := snoc_ind (by simp [cntO,seenK]) fun l o ih => by
 rw [List.length_append];cases o with
 | none => rw [cntO_none]; simp; omega
 | some k => rw [cntO_some]; split <;> simp <;> omega
theorem rep_succ (n i : Nat) (h : i < n) : List.replicate (n - i) (0 : Int) = 0 :: List.replicate (n - (i + 1)) 0 := by
 rw [show n - i = (n - (i + 1)) + 1 by omega,List.replicate_succ]
def GivesC9 (a : Au) (w : World) (e : Ending) (w' : World) : Prop := ∃ g,e = .returned (.slice (some ⟨g,0,none⟩) a.n.toNat a.n.toNat) ∧ (SepW w [eBlk g 3 (iv (clsN a (gdN a a.n.toNat) a.n.toNat))] w')
set_option maxHeartbeats 16000000 in
theorem classes9_c (a : Au) (p : AuP) (w : World) (hr : a.Right) (hA : Au.At w a p) :
 Calls Tryz.prog 87 #[a.val p] w (GivesC9 a w) := by
 have HR := Lib.hid hr;have HA := Lib.hid hA;have h0 := hr.n0;have hn := hr.n1;have HGD : Hid (∀ s : Nat,s < a.n.toNat → (gdN a a.n.toNat s = true ↔ Good a s)) := fun s hs => gdN_fin hr s hs;obtain ⟨al,n,mr,ed⟩ := a;obtain ⟨A1,c1,A2,c2,A3,c3⟩ := p;(try dsimp only [Au.val] at *);obtain ⟨N,rfl⟩ := Int.eq_ofNat_of_zero_le h0;have hmk := make_run (P := Tryz.prog) 28 3 (.int .i64 0) 8 Tryz.underlying28 intInfo rfl N (by omega) (by omega);clear hr hA h0;unfold GivesC9
 simp only [Int.toNat_natCast] at HGD ⊢;obtain ⟨gd,hgd⟩ : ∃ gd,gdN ⟨al,↑N,mr,ed⟩ N = gd := ⟨_,rfl⟩;rw [hgd] at HGD ⊢;have HGE := Lib.hid hgd;clear hgd;go_enter Tryz.func87,Tryz.ntmps87
 go_upto_region 1 with fail
 refine wp_world (fun W => Sep w.heap.size w [eBlk w.heap.size 31 [.slice A1 al.length c1,.int .i64 ↑N,.slice A2 mr.length c2,.slice A3 ed.length c3]] W) ?_ fun W S => ?_
 · exact (Sep.here w).alloc' _ [_,_,_,_] rfl rfl
 have S0 := Lib.hid S;clear S;have a0 := ckC S0.out 0 rfl 0 rfl;have a1 := ckC S0.out 0 rfl 1 rfl;have a2 := ckC S0.out 0 rfl 2 rfl;have a3 := ckC S0.out 0 rfl 3 rfl;go_wp2_with fail
 refine (core9_c ⟨al,↑N,mr,ed⟩ ⟨A1,c1,A2,c2,A3,c3⟩ W HR.out (HA.out.below S0.out.below)).mono ?_;rintro e W1 ⟨gg,rfl,T⟩;simp only [Int.toNat_natCast,HGE.out] at T ⊢;have S1 := ckN S0.out T.out;clear T S0 a0 a1 a2 a3;have a1 := ckC S1.out 1 rfl 1 rfl;obtain ⟨go,hgo⟩ : ∃ g,g = W1.heap.size := ⟨_,rfl⟩;go_upto_region 3 with fail
 rw [← hgo];refine wp_world (fun V => Sep w.heap.size w [eBlk go 3 (iv ((cls0 ⟨al,↑N,mr,ed⟩ gd).take 0 ++ List.replicate (N - 0) 0)),eBlk gg 4 (mkB N gd),eBlk w.heap.size 31 [.slice A1 al.length c1,.int .i64 ↑N,.slice A2 mr.length c2,.slice A3 ed.length c3]] V) ?_ fun V S' => ?_
 · have h := S1.out.alloc' 3 (iv (List.replicate N 0)) (o := .cells (Array.replicate N (.int .i64 0)) 3) (by simp [iv]) hgo;simpa [cls0] using h
 have S2 := Lib.hid S';clear S' S1 hgo a1;go_wp2_with fail
 go_loopw [5] (fun i wr => ∃ s : Nat,i = .int .i64 ↑s ∧ s ≤ N ∧ (SepW w [eBlk go 3 (iv ((cls0 ⟨al,↑N,mr,ed⟩ gd).take s ++ List.replicate (N - s) 0)),eBlk gg 4 (mkB N gd),eBlk w.heap.size 31 [.slice A1 al.length c1,.int .i64 ↑N,.slice A2 mr.length c2,.slice A3 ed.length c3]] wr)) (fun i _ => N - (intOf i).toNat)
 case atStart => exact ⟨0,rfl,Nat.zero_le _,S2.out⟩
 case round =>
  clear S2;obtain ⟨s,rfl,hs,S⟩ := hrel;have a0 := ckC S.out 2 rfl 0 rfl;have a1 := ckC S.out 2 rfl 1 rfl;have a2 := ckC S.out 2 rfl 2 rfl;have a3 := ckC S.out 2 rfl 3 rfl;by_cases hlt : s < N
  · have hA : ((cls0 ⟨al,↑N,mr,ed⟩ gd).take s).length = s := by simp [cls0]; omega
    have hT : Hid ((cls0 ⟨al,↑N,mr,ed⟩ gd).take (s + 1) = (cls0 ⟨al,↑N,mr,ed⟩ gd).take s ++ [if (s : Int) ∈ mr then 2 else if gd s then 1 else 0]) := by
     rw [Hid,List.take_add_one];congr 1
     simp [cls0,hlt]
    obtain ⟨TK,hTK⟩ : ∃ TK,(cls0 ⟨al,↑N,mr,ed⟩ gd).take s = TK := ⟨_,rfl⟩;rw [hTK] at hA hT S;have HAl := Lib.hid hA;clear hA hTK;have S3 : (SepW w [eBlk go 3 (iv (TK ++ 0 :: List.replicate (N - (s + 1)) 0)),eBlk gg 4 (mkB N gd),eBlk w.heap.size 31 [.slice A1 al.length c1,.int .i64 ↑N,.slice A2 mr.length c2,.slice A3 ed.length c3]] wr) := by have h := S.out; rw [rep_succ N s hlt] at h; exact h
    have HMG : Hid ((s : Int) ∈ mr → gd s = true) := fun h => (HGD.out s hlt).2 ⟨[],h⟩;have g1 : wr.cell? ⟨gg,s,none⟩ = some (.bool (gd s)) := (BlkAt.cell (S3.out.get 1 rfl) s).trans (mkB_get hlt);have o1 : wr.cell? ⟨go,s,none⟩ = some (.int .i64 0) := (BlkAt.cell (S3.out.get 0 rfl) s).trans (iv_mid _ _ _ _ HAl.out);have f1 : wr.frozen? ⟨go,s,none⟩ = false := BlkAt.free (S3.out.get 0 rfl) s;clear S;cases hgs : gd s
    · rw [hgs] at g1 hT HMG;have HNM : Hid (¬ (s : Int) ∈ mr) := fun h => by have := HMG.out h; cases this
      go_wp2_with fail
      refine (marked9_c ⟨al,↑N,mr,ed⟩ ⟨A1,c1,A2,c2,A3,c3⟩ (s : Int) wr (HA.out.below S3.out.below).mr HA.out.lmk).mono ?_;intro e w3 hsay;obtain ⟨rfl,hb⟩ := hsay.no2 HNM.out;have S4 : (SepW w [eBlk go 3 (iv ((cls0 ⟨al,↑N,mr,ed⟩ gd).take (s + 1) ++ List.replicate (N - (s + 1)) 0)),eBlk gg 4 (mkB N gd),eBlk w.heap.size 31 [.slice A1 al.length c1,.int .i64 ↑N,.slice A2 mr.length c2,.slice A3 ed.length c3]] w3) := by
       have h := S3.out.next hb;rw [hT.out,if_neg HNM.out,if_neg (by simp),List.append_assoc];exact h
      clear hb S3 hsay a0 a1 a2 a3 g1 o1 f1;go_wp2_with fail
      go_roundw
      case rel => exact ⟨s + 1,by go_num,by omega,S4.out⟩
      case measure => simp [intOf]; omega
    · rw [hgs] at g1 hT;have S4 : (SepW w [eBlk go 3 (iv (TK ++ 1 :: List.replicate (N - (s + 1)) 0)),eBlk gg 4 (mkB N gd),eBlk w.heap.size 31 [.slice A1 al.length c1,.int .i64 ↑N,.slice A2 mr.length c2,.slice A3 ed.length c3]] (wr.setCell ⟨go,s,none⟩ (.int .i64 1))) := by
       have h := S3.out.set 0 rfl s (.int .i64 1);rw [iv_set _ _ _ _ _ HAl.out] at h;exact h
      obtain ⟨W4,hW4⟩ : ∃ W4,W4 = wr.setCell ⟨go,s,none⟩ (.int .i64 1) := ⟨_,rfl⟩;rw [← hW4] at S4;clear HMG;go_upto_region 8 with fail
      rw [← hW4];clear hW4 S3 g1 o1 f1 a0 a1 a2 a3;have a0 := ckC S4.out 2 rfl 0 rfl;have a1 := ckC S4.out 2 rfl 1 rfl;have a2 := ckC S4.out 2 rfl 2 rfl;have a3 := ckC S4.out 2 rfl 3 rfl;go_wp2_with fail
      refine (marked9_c ⟨al,↑N,mr,ed⟩ ⟨A1,c1,A2,c2,A3,c3⟩ (s : Int) W4 (HA.out.below S4.out.below).mr HA.out.lmk).mono ?_;rintro e w3 ⟨b,rfl,hb',hb⟩;have HB := Lib.hid hb';have S5 := Lib.hid (S4.out.next hb);clear hb hb' S4 a0 a1 a2 a3;cases b
      · have HNM : Hid (¬ (s : Int) ∈ mr) := fun h => by have := HB.out.2 h; cases this
        have S6 : (SepW w [eBlk go 3 (iv ((cls0 ⟨al,↑N,mr,ed⟩ gd).take (s + 1) ++ List.replicate (N - (s + 1)) 0)),eBlk gg 4 (mkB N gd),eBlk w.heap.size 31 [.slice A1 al.length c1,.int .i64 ↑N,.slice A2 mr.length c2,.slice A3 ed.length c3]] w3) := by
         rw [hT.out,if_neg HNM.out];simp only [if_true,List.append_assoc];exact S5.out
        clear S5;go_wp2_with fail
        go_roundw
        case rel => exact ⟨s + 1,by go_num,by omega,S6.out⟩
        case measure => simp [intOf]; omega
      · have HM := Lib.hid (HB.out.1 rfl);have o1 : w3.cell? ⟨go,s,none⟩ = some (.int .i64 1) := (BlkAt.cell (S5.out.get 0 rfl) s).trans (iv_mid _ _ _ _ HAl.out);have f1 : w3.frozen? ⟨go,s,none⟩ = false := BlkAt.free (S5.out.get 0 rfl) s;have S6 : (SepW w [eBlk go 3 (iv ((cls0 ⟨al,↑N,mr,ed⟩ gd).take (s + 1) ++ List.replicate (N - (s + 1)) 0)),eBlk gg 4 (mkB N gd),eBlk w.heap.size 31 [.slice A1 al.length c1,.int .i64 ↑N,.slice A2 mr.length c2,.slice A3 ed.length c3]] (w3.setCell ⟨go,s,none⟩ (.int .i64 2))) := by
         have h := S5.out.set 0 rfl s (.int .i64 2);rw [iv_set _ _ _ _ _ HAl.out] at h;rw [hT.out,if_pos HM.out,List.append_assoc];exact h
        clear S5;go_wp2_with fail
        go_roundw
        case rel => exact ⟨s + 1,by go_num,by omega,S6.out⟩
        case measure => simp [intOf]; omega
  · obtain rfl : N = s := by omega
    have S3 : (SepW w [eBlk go 3 (iv ((clsN ⟨al,↑N,mr,ed⟩ gd 0))),eBlk gg 4 (mkB N gd),eBlk w.heap.size 31 [.slice A1 al.length c1,.int .i64 ↑N,.slice A2 mr.length c2,.slice A3 ed.length c3]] wr) := by
     have h := S.out;rw [List.take_of_length_le (by simp [cls0]),Nat.sub_self,List.replicate_zero,List.append_nil] at h;exact h
    clear S a0 a2 a3;go_wp2_with fail
    go_loopw [4,6,7,8,9,10] (fun v4 v6 _ _ _ _ wr => ∃ (r : Nat) (go : Nat),v6 = .int .i64 ↑r ∧ v4 = .slice (some ⟨go,0,none⟩) N N ∧ r ≤ N ∧ (SepW w [eBlk go 3 (iv ((clsN ⟨al,↑N,mr,ed⟩ gd r))),eBlk gg 4 (mkB N gd),eBlk w.heap.size 31 [.slice A1 al.length c1,.int .i64 ↑N,.slice A2 mr.length c2,.slice A3 ed.length c3]] wr)) (fun _ v6 _ _ _ _ _ => N - (intOf v6).toNat)
    case atStart => exact ⟨0,go,rfl,rfl,Nat.zero_le _,S3.out⟩
    case round =>
     clear S3 a1;obtain ⟨r,go,rfl,rfl,hrN,S⟩ := hrel;have a1 := ckC S.out 2 rfl 1 rfl;by_cases hlt2 : r < N
     · obtain ⟨gn,hgn⟩ : ∃ g,g = wr.heap.size := ⟨_,rfl⟩;go_upto_region 14 with fail
       rw [← hgn];refine wp_world (fun V => Sep w.heap.size w [eBlk gn 3 (iv (numO ((keysC ⟨al,↑N,mr,ed⟩ gd (clsN ⟨al,↑N,mr,ed⟩ gd r)).take 0) ++ List.replicate (N - 0) 0)),eBlk go 3 (iv ((clsN ⟨al,↑N,mr,ed⟩ gd r))),eBlk gg 4 (mkB N gd),eBlk w.heap.size 31 [.slice A1 al.length c1,.int .i64 ↑N,.slice A2 mr.length c2,.slice A3 ed.length c3]] V) ?_ fun V S' => ?_
       · have h := S.out.alloc' 3 (iv (List.replicate N 0)) (o := .cells (Array.replicate N (.int .i64 0)) 3) (by simp [iv]) hgn;simpa [numO] using h
       have S4 := Lib.hid S';clear S' S hgn a1;go_wp2_with fail
       go_loopw [8,9,10] (fun v8 v9 _ wr => ∃ i : Nat,v9 = .int .i64 ↑i ∧ v8 = .int .i64 (1 + (cntO ((keysC ⟨al,↑N,mr,ed⟩ gd (clsN ⟨al,↑N,mr,ed⟩ gd r)).take i) : Int)) ∧ i ≤ N ∧ (SepW w [eBlk gn 3 (iv (numO ((keysC ⟨al,↑N,mr,ed⟩ gd (clsN ⟨al,↑N,mr,ed⟩ gd r)).take i) ++ List.replicate (N - i) 0)),eBlk go 3 (iv ((clsN ⟨al,↑N,mr,ed⟩ gd r))),eBlk gg 4 (mkB N gd),eBlk w.heap.size 31 [.slice A1 al.length c1,.int .i64 ↑N,.slice A2 mr.length c2,.slice A3 ed.length c3]] wr)) (fun _ v9 _ _ => N - (intOf v9).toNat)
       case atStart => exact ⟨0,rfl,by simp [cntO,seenK],Nat.zero_le _,S4.out⟩
       case round =>
        clear S4;obtain ⟨i,rfl,rfl,hi,S⟩ := hrel;have a1 := ckC S.out 3 rfl 1 rfl;by_cases hlt3 : i < N
        · obtain ⟨K,hK⟩ : ∃ K,(keysC ⟨al,↑N,mr,ed⟩ gd (clsN ⟨al,↑N,mr,ed⟩ gd r)).take i = K := ⟨_,rfl⟩;rw [hK] at S ⊢;have hKl : K.length = i := by rw [← hK]; simp [keysC]; omega
          have hKn : (numO K).length = i := by rw [numO_len]; exact hKl
          have HKN := Lib.hid hKn;have hKs : Hid ((keysC ⟨al,↑N,mr,ed⟩ gd (clsN ⟨al,↑N,mr,ed⟩ gd r)).take (i + 1) = K ++ [if gd i then some (keyC ⟨al,↑N,mr,ed⟩ (clsN ⟨al,↑N,mr,ed⟩ gd r) i) else none]) := by
           rw [Hid,List.take_add_one,hK,keysC_get _ (by simpa using hlt3)];rfl
          have hKg : Hid (∀ j,j < i → K[j]? = some (if gd j then some (keyC ⟨al,↑N,mr,ed⟩ (clsN ⟨al,↑N,mr,ed⟩ gd r) j) else none)) := fun j hj => by
           rw [← hK,List.getElem?_take_of_lt hj,keysC_get _ (by simp; omega)]
          clear hK hKl hKn;have S3 : (SepW w [eBlk gn 3 (iv (numO K ++ (0) :: List.replicate (N - (i + 1)) 0)),eBlk go 3 (iv ((clsN ⟨al,↑N,mr,ed⟩ gd r))),eBlk gg 4 (mkB N gd),eBlk w.heap.size 31 [.slice A1 al.length c1,.int .i64 ↑N,.slice A2 mr.length c2,.slice A3 ed.length c3]] wr) := by have h := S.out; rw [rep_succ N i hlt3] at h; exact h
          have g1 : wr.cell? ⟨gg,i,none⟩ = some (.bool (gd i)) := (BlkAt.cell (S3.out.get 2 rfl) i).trans (mkB_get hlt3);clear S;cases hgi : gd i
          · rw [hgi] at g1 hKs;have hKs2 : Hid ((keysC ⟨al,↑N,mr,ed⟩ gd (clsN ⟨al,↑N,mr,ed⟩ gd r)).take (i + 1) = K ++ [none]) := hKs.out;have S4 : (SepW w [eBlk gn 3 (iv (numO ((keysC ⟨al,↑N,mr,ed⟩ gd (clsN ⟨al,↑N,mr,ed⟩ gd r)).take (i + 1)) ++ List.replicate (N - (i + 1)) 0)),eBlk go 3 (iv ((clsN ⟨al,↑N,mr,ed⟩ gd r))),eBlk gg 4 (mkB N gd),eBlk w.heap.size 31 [.slice A1 al.length c1,.int .i64 ↑N,.slice A2 mr.length c2,.slice A3 ed.length c3]] wr) := by
             rw [hKs2.out,numO_snoc_none,List.append_assoc];exact S3.out
            have HC : Hid (cntO ((keysC ⟨al,↑N,mr,ed⟩ gd (clsN ⟨al,↑N,mr,ed⟩ gd r)).take (i + 1)) = cntO K) := by rw [Hid,hKs2.out,cntO_none]
            clear hKs S3;go_wp2_with fail
            go_roundw
            case rel => exact ⟨i + 1,by go_num,by rw [HC.out],by omega,S4.out⟩
            case measure => simp [intOf]; omega
          · rw [hgi] at g1 hKs;have hKs2 : Hid ((keysC ⟨al,↑N,mr,ed⟩ gd (clsN ⟨al,↑N,mr,ed⟩ gd r)).take (i + 1) = K ++ [some (keyC ⟨al,↑N,mr,ed⟩ (clsN ⟨al,↑N,mr,ed⟩ gd r) i)]) := hKs.out;have o1 : wr.cell? ⟨gn,i,none⟩ = some (.int .i64 0) := (BlkAt.cell (S3.out.get 0 rfl) i).trans (iv_mid _ _ _ _ HKN.out);have f1 : wr.frozen? ⟨gn,i,none⟩ = false := BlkAt.free (S3.out.get 0 rfl) i;have S4 : (SepW w [eBlk gn 3 (iv (numO K ++ (1 + (cntO K : Int)) :: List.replicate (N - (i + 1)) 0)),eBlk go 3 (iv ((clsN ⟨al,↑N,mr,ed⟩ gd r))),eBlk gg 4 (mkB N gd),eBlk w.heap.size 31 [.slice A1 al.length c1,.int .i64 ↑N,.slice A2 mr.length c2,.slice A3 ed.length c3]] (wr.setCell ⟨gn,i,none⟩ (.int .i64 (1 + (cntO K : Int))))) := by
             have h := S3.out.set 0 rfl i (.int .i64 (1 + (cntO K : Int)));rw [iv_set _ _ _ _ _ HKN.out] at h;exact h
            obtain ⟨kc,hkc⟩ : ∃ k,(cntO K : Int) = k := ⟨_,rfl⟩;have HKC := Lib.hid hkc;rw [hkc] at S4 ⊢;clear hkc hKs;go_wp2_with fail
            go_loopw [10] (fun v10 wrq => ∃ (k : Nat) (u : Int),v10 = .int .i64 ↑k ∧ k ≤ i ∧ Hid ((∀ j,j < k → gd j = true → keyC ⟨al,↑N,mr,ed⟩ (clsN ⟨al,↑N,mr,ed⟩ gd r) j ≠ keyC ⟨al,↑N,mr,ed⟩ (clsN ⟨al,↑N,mr,ed⟩ gd r) i) ∧ u = 1 + kc ∨ keyC ⟨al,↑N,mr,ed⟩ (clsN ⟨al,↑N,mr,ed⟩ gd r) i ∈ K.filterMap id ∧ u = 1 + ((idxK (seenK [] (K.filterMap id)) (keyC ⟨al,↑N,mr,ed⟩ (clsN ⟨al,↑N,mr,ed⟩ gd r) i) : Nat) : Int)) ∧ (SepW w [eBlk gn 3 (iv (numO K ++ (u) :: List.replicate (N - (i + 1)) 0)),eBlk go 3 (iv ((clsN ⟨al,↑N,mr,ed⟩ gd r))),eBlk gg 4 (mkB N gd),eBlk w.heap.size 31 [.slice A1 al.length c1,.int .i64 ↑N,.slice A2 mr.length c2,.slice A3 ed.length c3]] wrq)) (fun v10 _ => i - (intOf v10).toNat)
            case atStart => exact ⟨0,_,rfl,Nat.zero_le _,.inl ⟨fun j hj => absurd hj (Nat.not_lt_zero _),rfl⟩,S4.out⟩
            case round =>
             clear S3 S4 g1 o1 f1;obtain ⟨k,u,rfl,hki,HU,S⟩ := hrel;by_cases hlt4 : k < i
             · have a0 := ckC S.out 3 rfl 0 rfl;have a1 := ckC S.out 3 rfl 1 rfl;have a2 := ckC S.out 3 rfl 2 rfl;have a3 := ckC S.out 3 rfl 3 rfl;have hkN : k < N := by omega
               have g1 : wr.cell? ⟨gg,k,none⟩ = some (.bool (gd k)) := (BlkAt.cell (S.out.get 2 rfl) k).trans (mkB_get hkN);cases hgk : gd k
               · rw [hgk] at g1;have HU2 := HU.out;have HU3 : Hid ((∀ j,j < k + 1 → gd j = true → keyC ⟨al,↑N,mr,ed⟩ (clsN ⟨al,↑N,mr,ed⟩ gd r) j ≠ keyC ⟨al,↑N,mr,ed⟩ (clsN ⟨al,↑N,mr,ed⟩ gd r) i) ∧ u = 1 + kc ∨ keyC ⟨al,↑N,mr,ed⟩ (clsN ⟨al,↑N,mr,ed⟩ gd r) i ∈ K.filterMap id ∧ u = 1 + ((idxK (seenK [] (K.filterMap id)) (keyC ⟨al,↑N,mr,ed⟩ (clsN ⟨al,↑N,mr,ed⟩ gd r) i) : Nat) : Int)) := HU2.imp (fun h => ⟨fun j hj gj => by
                  by_cases e : j = k
                  · subst e; rw [hgk] at gj; cases gj
                  · exact h.1 j (by omega) gj,h.2⟩) id
                 clear HU HU2;go_wp2_with fail
                 go_roundw
                 case rel => exact ⟨k + 1,u,by go_num,by omega,HU3.out,S.out⟩
                 case measure => simp [intOf]; omega
               · rw [hgk] at g1;have HGK := Lib.hid hgk;have AL : Hid (Calls Tryz.prog 122 #[(⟨al,↑N,mr,ed⟩ : Au).val ⟨A1,c1,A2,c2,A3,c3⟩,.slice (some ⟨go,0,none⟩) N N,.int .i64 ↑i,.int .i64 ↑k] wr (Tells (keyC ⟨al,↑N,mr,ed⟩ (clsN ⟨al,↑N,mr,ed⟩ gd r) i = keyC ⟨al,↑N,mr,ed⟩ (clsN ⟨al,↑N,mr,ed⟩ gd r) k) wr)) := by
                  have h := alike_c ⟨al,↑N,mr,ed⟩ ⟨A1,c1,A2,c2,A3,c3⟩ (some ⟨go,0,none⟩) N (clsN ⟨al,↑N,mr,ed⟩ gd r) i k wr HR.out (HA.out.below S.out.below) (IntsAt.blk _ (S.out.get 1 rfl)) (clsN_len r) (by simp only; omega) (by simp only; omega);rw [clsN_len] at h;simp only [Int.toNat_natCast] at h;exact h
                 clear hgk;dsimp only [Au.val] at AL;go_wp2_with fail
                 refine AL.out.mono ?_;rintro e w3 ⟨b,rfl,hb',hb⟩;have HB := Lib.hid hb';have S5 := Lib.hid (S.out.next hb);clear hb hb' S a0 a1 a2 a3 g1 AL;cases b
                 · have HU3 : Hid ((∀ j,j < k + 1 → gd j = true → keyC ⟨al,↑N,mr,ed⟩ (clsN ⟨al,↑N,mr,ed⟩ gd r) j ≠ keyC ⟨al,↑N,mr,ed⟩ (clsN ⟨al,↑N,mr,ed⟩ gd r) i) ∧ u = 1 + kc ∨ keyC ⟨al,↑N,mr,ed⟩ (clsN ⟨al,↑N,mr,ed⟩ gd r) i ∈ K.filterMap id ∧ u = 1 + ((idxK (seenK [] (K.filterMap id)) (keyC ⟨al,↑N,mr,ed⟩ (clsN ⟨al,↑N,mr,ed⟩ gd r) i) : Nat) : Int)) := HU.out.imp (fun h => ⟨fun j hj gj => by
                    by_cases e : j = k
                    · subst e; exact fun h2 => by have := HB.out.2 h2.symm; cases this
                    · exact h.1 j (by omega) gj,h.2⟩) id
                   clear HU HB;go_wp2_with fail
                   go_roundw
                   case rel => exact ⟨k + 1,u,by go_num,by omega,HU3.out,S5.out⟩
                   case measure => simp [intOf]; omega
                 · have HE := Lib.hid (HB.out.1 rfl);have hKk : Hid (K[k]? = some (some (keyC ⟨al,↑N,mr,ed⟩ (clsN ⟨al,↑N,mr,ed⟩ gd r) i))) := by rw [Hid,hKg.out k hlt4,HGK.out,HE.out]; rfl
                   obtain ⟨u2,hu2⟩ : ∃ u2,1 + ((idxK (seenK [] (K.filterMap id)) (keyC ⟨al,↑N,mr,ed⟩ (clsN ⟨al,↑N,mr,ed⟩ gd r) i) : Nat) : Int) = u2 := ⟨_,rfl⟩;have HKK : Hid ((numO K)[k]? = some u2) := by rw [← hu2]; exact numO_get hKk.out
                   have HU3 : Hid (keyC ⟨al,↑N,mr,ed⟩ (clsN ⟨al,↑N,mr,ed⟩ gd r) i ∈ K.filterMap id ∧ u2 = 1 + ((idxK (seenK [] (K.filterMap id)) (keyC ⟨al,↑N,mr,ed⟩ (clsN ⟨al,↑N,mr,ed⟩ gd r) i) : Nat) : Int)) := ⟨fm_mem hKk.out,hu2.symm⟩;have o1 : w3.cell? ⟨gn,i,none⟩ = some (.int .i64 u) := (BlkAt.cell (S5.out.get 0 rfl) i).trans (iv_mid _ _ _ _ HKN.out);have o2 : w3.cell? ⟨gn,k,none⟩ = some (.int .i64 u2) := (BlkAt.cell (S5.out.get 0 rfl) k).trans (iv_pre HKK.out _);have f1 : w3.frozen? ⟨gn,i,none⟩ = false := BlkAt.free (S5.out.get 0 rfl) i;have S6 : (SepW w [eBlk gn 3 (iv (numO K ++ (u2) :: List.replicate (N - (i + 1)) 0)),eBlk go 3 (iv ((clsN ⟨al,↑N,mr,ed⟩ gd r))),eBlk gg 4 (mkB N gd),eBlk w.heap.size 31 [.slice A1 al.length c1,.int .i64 ↑N,.slice A2 mr.length c2,.slice A3 ed.length c3]] (w3.setCell ⟨gn,i,none⟩ (.int .i64 u2))) := by
                    have h := S5.out.set 0 rfl i (.int .i64 u2);rw [iv_set _ _ _ _ _ HKN.out] at h;exact h
                   clear HU HB HE hu2 S5;go_wp2_with fail
                   go_roundw
                   case rel => exact ⟨k + 1,u2,by go_num,by omega,.inr HU3.out,S6.out⟩
                   case measure => simp [intOf]; omega
             · obtain rfl : k = i := by omega
               have a1 := ckC S.out 3 rfl 1 rfl;have o1 : wr.cell? ⟨gn,k,none⟩ = some (.int .i64 u) := (BlkAt.cell (S.out.get 0 rfl) k).trans (iv_mid _ _ _ _ HKN.out);have hcase : (¬ keyC ⟨al,↑N,mr,ed⟩ (clsN ⟨al,↑N,mr,ed⟩ gd r) k ∈ K.filterMap id ∧ u = 1 + kc) ∨ (keyC ⟨al,↑N,mr,ed⟩ (clsN ⟨al,↑N,mr,ed⟩ gd r) k ∈ K.filterMap id ∧ u = 1 + ((idxK (seenK [] (K.filterMap id)) (keyC ⟨al,↑N,mr,ed⟩ (clsN ⟨al,↑N,mr,ed⟩ gd r) k) : Nat) : Int) ∧ u ≠ 1 + kc) := by
                rcases HU.out with ⟨h1,h2⟩ | ⟨h1,h2⟩
                · by_cases hm : keyC ⟨al,↑N,mr,ed⟩ (clsN ⟨al,↑N,mr,ed⟩ gd r) k ∈ K.filterMap id
                  · exfalso
                    obtain ⟨o,ho,hoe⟩ := List.mem_filterMap.1 hm;obtain rfl : o = some _ := hoe;obtain ⟨j,hj,hje⟩ := List.mem_iff_getElem.1 ho;have hjk : j < k := by have := HKN.out; rw [numO_len] at this; omega
                    have hg := hKg.out j hjk;rw [List.getElem?_eq_getElem hj,hje] at hg;cases hgj : gd j with
                    | false => rw [hgj] at hg; cases Option.some.inj hg
                    | true =>
                      rw [hgj] at hg;exact h1 j hjk hgj (Option.some.inj (Option.some.inj hg)).symm
                  · exact .inl ⟨hm,h2⟩
                · refine .inr ⟨h1,h2,?_⟩;have := idxK_lt (mem_seen.2 h1);have e : cntO K = (seenK [] (K.filterMap id)).length := rfl;have := HKC.out;omega
               rcases hcase with ⟨hm,rfl⟩ | ⟨hm,hu,hne⟩
               · have HC : Hid ((1 + (cntO ((keysC ⟨al,↑N,mr,ed⟩ gd (clsN ⟨al,↑N,mr,ed⟩ gd r)).take (k + 1)) : Int)) = 1 + kc + 1) := by rw [Hid,hKs2.out,cntO_some,if_neg hm,← HKC.out]; omega
                 have S6 : (SepW w [eBlk gn 3 (iv (numO ((keysC ⟨al,↑N,mr,ed⟩ gd (clsN ⟨al,↑N,mr,ed⟩ gd r)).take (k + 1)) ++ List.replicate (N - (k + 1)) 0)),eBlk go 3 (iv ((clsN ⟨al,↑N,mr,ed⟩ gd r))),eBlk gg 4 (mkB N gd),eBlk w.heap.size 31 [.slice A1 al.length c1,.int .i64 ↑N,.slice A2 mr.length c2,.slice A3 ed.length c3]] wr) := by
                  rw [hKs2.out,numO_snoc_some,if_neg hm,List.append_assoc,HKC.out];exact S.out
                 have hq : (1 + kc == 1 + kc) = true := by simp
                 have hw : IntKind.i64.wrap (1 + kc + 1) = 1 + kc + 1 := IntWalk.i64_in _ (by have h1 : cntO K ≤ K.length := cntO_le K; have h2 := HKN.out; rw [numO_len] at h2; have := HKC.out; omega);clear HU S hm;go_wp2_with fail
                 go_roundw
                 case rel => exact ⟨k + 1,by go_num,by rw [HC.out],by omega,S6.out⟩
                 case measure => simp [intOf]; omega
               · have HC : Hid ((1 + (cntO ((keysC ⟨al,↑N,mr,ed⟩ gd (clsN ⟨al,↑N,mr,ed⟩ gd r)).take (k + 1)) : Int)) = 1 + kc) := by rw [Hid,hKs2.out,cntO_some,if_pos hm,← HKC.out]
                 have S6 : (SepW w [eBlk gn 3 (iv (numO ((keysC ⟨al,↑N,mr,ed⟩ gd (clsN ⟨al,↑N,mr,ed⟩ gd r)).take (k + 1)) ++ List.replicate (N - (k + 1)) 0)),eBlk go 3 (iv ((clsN ⟨al,↑N,mr,ed⟩ gd r))),eBlk gg 4 (mkB N gd),eBlk w.heap.size 31 [.slice A1 al.length c1,.int .i64 ↑N,.slice A2 mr.length c2,.slice A3 ed.length c3]] wr) := by
                  rw [hKs2.out,numO_snoc_some,if_pos hm,List.append_assoc,← hu];exact S.out
                 have hq : (u == 1 + kc) = false := by simpa using hne
                 clear HU S hm hu hne;go_wp2_with fail
                 go_roundw
                 case rel => exact ⟨k + 1,by go_num,by rw [HC.out],by omega,S6.out⟩
                 case measure => simp [intOf]; omega
        · obtain rfl : N = i := by omega
          have S5 : (SepW w [eBlk gn 3 (iv ((clsN ⟨al,↑N,mr,ed⟩ gd (r + 1)))),eBlk gg 4 (mkB N gd),eBlk w.heap.size 31 [.slice A1 al.length c1,.int .i64 ↑N,.slice A2 mr.length c2,.slice A3 ed.length c3]] wr) := by
           have h := S.out;rw [List.take_of_length_le (by simp [keysC]),Nat.sub_self,List.replicate_zero,List.append_nil] at h;exact h.pick [0,2,3] (by decide)
          clear S;go_wp2_with fail
          go_roundw
          case rel => exact ⟨r + 1,gn,by go_num,rfl,by omega,S5.out⟩
          case measure => simp [intOf]; omega
     · obtain rfl : N = r := by omega
       have S5 := Lib.hid S.out.first;go_wp2_with fail
       go_ret
       exact ⟨_,rfl,S5.out⟩
section

structure Reps (q : Au) (c : List Int) (i : Nat) (rp : List Nat) : Prop where
 at_ : ∀ (d r : Nat),rp[d]? = some r → r < i ∧ c.getD r 0 = (d : Int) + 1
 le : ∀ j,j < i → c.getD j 0 ≤ rp.length
section
variable {q : Au} {c : List Int} {i m : Nat} {rp : List Nat}
theorem Reps.start : Reps q c 0 [] := ⟨fun d r h => by simp at h,fun j h => by omega⟩
theorem Reps.skip (h : Reps q c i rp) (hc : c.getD i 0 ≤ rp.length) : Reps q c (i + 1) rp :=
 ⟨fun d r hd => by have := h.at_ d r hd; exact ⟨by omega,this.2⟩,fun j hj => by
  by_cases e : j = i
  · subst e; exact hc
  · exact h.le j (by omega)⟩
theorem Reps.push (h : Reps q c i rp) (hm : Mx q c m) (hi : i < q.n.toNat) (hc : ¬ c.getD i 0 ≤ rp.length) : c.getD i 0 = (rp.length : Int) + 1 ∧ Reps q c (i + 1) (rp ++ [i]) := by
 have e : c.getD i 0 = (rp.length : Int) + 1 := by
  by_cases h2 : c.getD i 0 ≤ (rp.length : Int) + 1
  · omega
  · obtain ⟨j,hj,hv⟩ := hm.can i (c.getD i 0 - 2).toNat hi (by omega);have := h.le j hj;omega
 refine ⟨e,fun d r hd => ?_,fun j hj => ?_⟩
 · rcases getElem?_snocN hd with g | ⟨g,rfl⟩
   · have := h.at_ d r g; exact ⟨by omega,this.2⟩
   · exact ⟨by omega,by rw [e,g]⟩
 · rw [List.length_append];by_cases e' : j = i
   · subst e'; rw [e]; simp
   · have := h.le j (by omega);simp only [List.length_cons,List.length_nil];omega
where
 getElem?_snocN {l : List Nat} {w : Nat} {i : Nat} {v : Nat} (h : (l ++ [w])[i]? = some v) : l[i]? = some v ∨ i = l.length ∧ v = w := getElem?_snoc h
theorem Reps.len (h : Reps q c i rp) : rp.length ≤ i := by
 have := sub_len rp (List.range i) (by
  rw [List.nodup_iff_pairwise_ne,List.pairwise_iff_getElem];intro a b ha hb hab e;have h1 := (h.at_ a _ (List.getElem?_eq_getElem ha)).2;have h2 := (h.at_ b _ (List.getElem?_eq_getElem hb)).2;rw [e] at h1;omega) (fun x hx => by
  obtain ⟨d,hd,rfl⟩ := List.mem_iff_getElem.1 hx;exact List.mem_range.2 (h.at_ d _ (List.getElem?_eq_getElem hd)).1)
 simpa using this
end
def clQ (c : List Int) (x : Int) : Int := clsI c x - 1
def nxQ (q : Au) (c : List Int) (rp : List Nat) (d : Nat) (e : Int) : Int := clQ c (nextV q.ed (rp.getD d 0) e)
def mkQ (q : Au) (rp : List Nat) : List Int := ((List.range rp.length).filter fun d => decide (((rp.getD d 0 : Nat) : Int) ∈ q.mr)).map fun (d : Nat) => (d : Int)
def quotV (q : Au) (c : List Int) (rp : List Nat) : Au := ⟨q.al,rp.length,mkQ q rp,rowsG q.al (nxQ q c rp) rp.length⟩
theorem mem_mkQ {q : Au} {rp : List Nat} (d : Nat) : (d : Int) ∈ mkQ q rp ↔ d < rp.length ∧ ((rp.getD d 0 : Nat) : Int) ∈ q.mr := by
 unfold mkQ
 simp only [List.mem_map,List.mem_filter,List.mem_range,decide_eq_true_eq];constructor
 · rintro ⟨j,h,e⟩;obtain rfl : j = d := by omega
   exact h
 · exact fun h => ⟨d,h,rfl⟩
theorem getD_snoc_lt {l : List Nat} {x : Nat} {d : Nat} (h : d < l.length) : (l ++ [x]).getD d 0 = l.getD d 0 := by
 rw [List.getD_eq_getElem?_getD,List.getD_eq_getElem?_getD,List.getElem?_append_left h]
theorem getD_snoc_eq (l : List Nat) (x : Nat) : (l ++ [x]).getD l.length 0 = x := by
 rw [List.getD_eq_getElem?_getD,List.getElem?_append_right (Nat.le_refl _),Nat.sub_self]; rfl
theorem mkQ_snoc (q : Au) (rp : List Nat) (x : Nat) : mkQ q (rp ++ [x]) = if ((x : Nat) : Int) ∈ q.mr then mkQ q rp ++ [(rp.length : Int)] else mkQ q rp := by
 unfold mkQ
 rw [List.length_append,List.length_cons,List.length_nil,List.range_succ,List.filter_append,List.map_append];have e : (List.range rp.length).filter (fun d => decide ((((rp ++ [x]).getD d 0 : Nat) : Int) ∈ q.mr)) = (List.range rp.length).filter (fun d => decide (((rp.getD d 0 : Nat) : Int) ∈ q.mr)) :=
  List.filter_congr fun d hd => by rw [getD_snoc_lt (List.mem_range.1 hd)]
 rw [e,List.filter_cons,getD_snoc_eq];by_cases h : ((x : Nat) : Int) ∈ q.mr
 · simp [h]
 · simp [h]
theorem mkQ_len (q : Au) (rp : List Nat) : (mkQ q rp).length ≤ rp.length := by
 unfold mkQ
 rw [List.length_map];exact Nat.le_trans (List.length_filter_le _ _) (by simp)
theorem rowsQ_snoc (q : Au) (c : List Int) (rp : List Nat) (x : Nat) : rowsG q.al (nxQ q c (rp ++ [x])) (rp ++ [x]).length = rowsG q.al (nxQ q c rp) rp.length ++ rowG q.al rp.length (fun e => clQ c (nextV q.ed x e)) := by
 rw [List.length_append,List.length_cons,List.length_nil,rowsG_succ];congr 1
 · unfold rowsG
   refine fmapCongr fun i hi => ?_;have : nxQ q c (rp ++ [x]) i = nxQ q c rp i := by funext e; unfold nxQ; rw [getD_snoc_lt (List.mem_range.1 hi)]
   rw [this]
 · have : nxQ q c (rp ++ [x]) rp.length = fun e => clQ c (nextV q.ed x e) := by funext e; unfold nxQ; rw [getD_snoc_eq]
   rw [this]
where
 fmapCongr {α β : Type} {f g : α → List β} {l : List α} (h : ∀ x,x ∈ l → f x = g x) : l.flatMap f = l.flatMap g := by
  induction l with
  | nil => rfl
  | cons a l ih => rw [List.flatMap_cons,List.flatMap_cons,h a (by simp),ih fun x hx => h x (by simp [hx])]
structure QOk (q : Au) (gd : Nat → Bool) (c : List Int) (m : Nat) (rp : List Nat) : Prop where
 rt : q.Right
 hgd : ∀ s : Nat,s < q.n.toNat → (gd s = true ↔ Good q s)
 pre : Pre q gd c
 stb : Stb q gd c
 mx : Mx q c m
 rp : Reps q c q.n.toNat rp
section
variable {q : Au} {gd : Nat → Bool} {c : List Int} {m : Nat} {rp : List Nat}
theorem QOk.cl_cases (h : QOk q gd c m rp) {x : Int} (hx : x = -1 ∨ 0 ≤ x ∧ x < q.n) : clQ c x = -1 ∧ ¬ Good q x ∨ 0 ≤ clQ c x ∧ clQ c x < rp.length ∧ Good q x := by
 rcases hx with rfl | hx
 · exact .inl ⟨rfl,good_neg h.rt (by omega)⟩
 · unfold clQ clsI
   rw [if_pos hx.1];have hg := h.hgd x.toNat (by omega);rw [Int.toNat_of_nonneg hx.1] at hg;have hz := h.pre.z x.toNat (by omega);have h0 := (h.mx.rg x.toNat (by omega)).1;by_cases e : c.getD x.toNat 0 = 0
   · exact .inl ⟨by omega,fun g => by have := hz.1 e; rw [hg.2 g] at this; cases this⟩
   · have := h.rp.le x.toNat (by omega);exact .inr ⟨by omega,by omega,hg.1 (btrue fun hb => e (hz.2 hb))⟩
theorem QOk.rep (h : QOk q gd c m rp) {d : Nat} (hd : d < rp.length) : ((rp.getD d 0 : Nat) : Int) < q.n ∧ clQ c ((rp.getD d 0 : Nat) : Int) = (d : Int) := by
 have hg : rp[d]? = some (rp.getD d 0) := by rw [List.getD_eq_getElem?_getD,List.getElem?_eq_getElem hd]; rfl
 obtain ⟨h1,h2⟩ := h.rp.at_ d _ hg;have h0 := h.rt.n0;refine ⟨by omega,?_⟩;unfold clQ clsI
 rw [if_pos (Int.natCast_nonneg _),Int.toNat_natCast,h2];omega
theorem QOk.res (h : QOk q gd c m rp) {x y : Int} (hx : x = -1 ∨ 0 ≤ x ∧ x < q.n) (hy : y = -1 ∨ 0 ≤ y ∧ y < q.n) (e : clQ c x = clQ c y) : Res q x y := fun w =>
 h.stb.res h.rt h.hgd h.pre w x y hx hy (by unfold clQ at e; omega)
theorem QOk.cl_res (h : QOk q gd c m rp) {x y : Int} (hx : x = -1 ∨ 0 ≤ x ∧ x < q.n) (hy : y = -1 ∨ 0 ≤ y ∧ y < q.n) (e : Res q x y) : clQ c x = clQ c y := by
 unfold clQ
 rw [h.pre.clsI_res h.rt h.hgd hx hy e]
theorem QOk.next_rg (h : QOk q gd c m rp) (s e : Int) : nextV q.ed s e = -1 ∨ 0 ≤ nextV q.ed s e ∧ nextV q.ed s e < q.n := Pre.key.next_rg h.rt s e
theorem QOk.run_rg (h : QOk q gd c m rp) : ∀ (w : List Int) (x : Int),(x = -1 ∨ 0 ≤ x ∧ x < q.n) → (runV q.ed x w = -1 ∨ 0 ≤ runV q.ed x w ∧ runV q.ed x w < q.n)
 | [],x,hx => hx
 | e :: w,x,hx => by
   rw [runV];rcases hx with rfl | hx
   · rw [if_neg (by omega)]; exact .inl rfl
   · rw [if_pos hx.1];exact h.run_rg w _ (h.next_rg x e)
theorem QOk.right (h : QOk q gd c m rp) : (quotV q c rp).Right := by
 have hl := h.rp.len;have h1 := h.rt.n1;refine rowsG_right h.rt.al (by omega) (fun d e hd he => ?_) (setOk_of ?_ fun x hx => ?_)
 · unfold nxQ
   rcases h.cl_cases (h.next_rg ((rp.getD d 0 : Nat) : Int) e) with g | g <;> omega
 · intro a b x y hab hx hy;have hpw : (mkQ q rp).Pairwise (· < ·) := by
    unfold mkQ
    rw [List.pairwise_map];exact (List.Pairwise.filter _ List.pairwise_lt_range).imp fun h => by omega
   obtain ⟨ha,hax⟩ := List.getElem?_eq_some_iff.1 hx;obtain ⟨hb,hbx⟩ := List.getElem?_eq_some_iff.1 hy;have := List.pairwise_iff_getElem.1 hpw a b ha hb hab;rw [hax,hbx] at this;exact this
 · unfold mkQ at hx
   simp only [List.mem_map,List.mem_filter,List.mem_range] at hx;obtain ⟨d,⟨hd,_⟩,rfl⟩ := hx;omega
theorem QOk.run (h : QOk q gd c m rp) (w : List Int) {x : Int} (hx : x = -1 ∨ 0 ≤ x ∧ x < q.n) : runV (quotV q c rp).ed (clQ c x) w = clQ c (runV q.ed x w) := by
 rw [← h.rt.fold w x (hx.imp id fun g => g.1)];refine rowsG_run h.right (nextV q.ed) (clQ c) (fun s => s = -1 ∨ (0 ≤ s ∧ s < q.n) ∨ clQ c s = -1 ∧ s < -1) (fun s e hs => ?_) (fun s => ?_) (fun s e hs h0 he => ?_) (fun s e hs h0 => ?_) (fun s e hs he => ?_) w x (hx.imp id .inl)
 · rcases h.next_rg s e with g | g
   · exact .inl g
   · exact .inr (.inl g)
 · by_cases hs : s = -1 ∨ 0 ≤ s ∧ s < q.n
   · rcases h.cl_cases hs with g | g
     · exact .inl g.1
     · exact .inr ⟨g.1,g.2.1⟩
   · left
     unfold clQ clsI
     by_cases h0 : 0 ≤ s
     · rw [if_pos h0];have hlen := h.pre.len;rw [List.getD_eq_getElem?_getD,List.getElem?_eq_none (by omega)];rfl
     · rw [if_neg h0]; rfl
 · have hs' : s = -1 ∨ 0 ≤ s ∧ s < q.n := by
    rcases hs with g | g | g
    · exact .inl g
    · exact .inr g
    · omega
   rcases h.cl_cases hs' with g | g
   · omega
   have hs0 : 0 ≤ s := by
    rcases hs' with rfl | k
    · have : clQ c (-1) = -1 := rfl;omega
    · exact k.1
   obtain ⟨r1,r2⟩ := h.rep (d := (clQ c s).toNat) (by omega);rw [Int.toNat_of_nonneg g.1] at r2;have hr := h.res (.inr ⟨Int.natCast_nonneg _,r1⟩) hs' r2;have hn := h.cl_res (h.next_rg _ e) (h.next_rg s e) (hr.next (Int.natCast_nonneg _) hs0 e);have e1 : nxQ q c rp (clQ c s).toNat e = clQ c (nextV q.ed s e) := hn;rw [e1];rcases h.cl_cases (h.next_rg s e) with k | k
   · rw [k.1]; rfl
   · rw [if_pos k.1]
 · rcases h.cl_cases (h.next_rg s e) with k | k
   · exact k.1
   · exfalso
     have hs' : 0 ≤ s ∧ s < q.n := by
      rcases hs with g | g | g
      · subst g;rw [h.rt.next_neg] at k;exact absurd k.2.2 (good_neg h.rt (by omega))
      · exact g
      · rcases h.rt.next_cases s e with g' | ⟨_,_,y,hy,rfl,_⟩
        · rw [g'] at k;exact absurd k.2.2 (good_neg h.rt (by omega))
        · obtain ⟨j,hj,rfl⟩ := List.mem_iff_getElem.1 hy;have := (h.rt.ed j hj _ (List.getElem?_eq_getElem hj)).1;omega
     rcases h.cl_cases (.inr hs') with g | g
     · obtain ⟨w,hw⟩ := k.2.2;exact g.2 ⟨e :: w,by rw [runV,if_pos hs'.1]; exact hw⟩
     · omega
 · rw [h.rt.next_out he]; rfl
theorem QOk.mark (h : QOk q gd c m rp) {x : Int} (hx : x = -1 ∨ 0 ≤ x ∧ x < q.n) : clQ c x ∈ (quotV q c rp).mr ↔ x ∈ q.mr := by
 rcases h.cl_cases hx with g | g
 · rw [g.1];exact ⟨fun hm => by have := (h.right.mem hm).1; omega,fun hm => absurd ⟨[],hm⟩ g.2⟩
 · obtain ⟨r1,r2⟩ := h.rep (d := (clQ c x).toNat) (by omega);rw [Int.toNat_of_nonneg g.1] at r2;have hr := h.res (.inr ⟨Int.natCast_nonneg _,r1⟩) hx r2;have e : clQ c x = (((clQ c x).toNat : Nat) : Int) := (Int.toNat_of_nonneg g.1).symm;rw [e];show _ ∈ mkQ q rp ↔ _
   rw [mem_mkQ];exact ⟨fun k => (hr []).1 k.2,fun k => ⟨by omega,(hr []).2 k⟩⟩
theorem QOk.isMin (h : QOk q gd c m rp) (hn : 0 < q.n) (h0 : c.getD 0 0 ≠ 0) : IsMin (canonV (quotV q c rp)) (fun w => rn q w ∈ q.mr) := by
 have hst : q.st = 0 := by unfold Au.st; rw [if_neg (by omega)]
 have hz : (0 : Int) = -1 ∨ 0 ≤ (0 : Int) ∧ (0 : Int) < q.n := .inr ⟨Int.le_refl _,hn⟩;have c0 : clQ c 0 = 0 := by
  have h1 := (h.mx.rg 0 (by omega)).1;unfold clQ clsI
  rw [if_pos (Int.le_refl _)];show c.getD 0 0 - 1 = 0
  by_cases e : c.getD 0 0 = 1
  · omega
  · obtain ⟨j,hj,_⟩ := h.mx.can 0 (c.getD 0 0 - 2).toNat (by omega) (by omega);omega
 have hrl : 0 < rp.length := by
  rcases h.cl_cases hz with g | g
  · omega
  · omega
 have hqst : (quotV q c rp).st = clQ c 0 := by
  rw [c0];unfold Au.st
  rw [if_neg];show ¬ ((rp.length : Nat) : Int) = 0
  omega
 have hlang : ∀ w,rn (quotV q c rp) w ∈ (quotV q c rp).mr ↔ rn q w ∈ q.mr := fun w => by
  unfold rn
  rw [hqst,hst,h.run w hz];exact h.mark (h.run_rg w 0 hz)
 have hall : ∀ s : Int,0 ≤ s → s < (quotV q c rp).n → ∃ x,(0 ≤ x ∧ x < q.n) ∧ clQ c x = s := fun s h0 h1 => by
  have h1' : s < ((rp.length : Nat) : Int) := h1;obtain ⟨r1,r2⟩ := h.rep (d := s.toNat) (by omega);exact ⟨_,⟨Int.natCast_nonneg _,r1⟩,by rw [r2,Int.toNat_of_nonneg h0]⟩
 refine (canon_isMin h.right (by show (0 : Int) < ((rp.length : Nat) : Int); omega) (fun s h0 h1 => ?_) (fun s t h0 h1 k0 k1 he => ?_)).congr hlang
 · obtain ⟨x,hx,rfl⟩ := hall s h0 h1;rcases h.cl_cases (.inr hx) with g | g
   · omega
   · obtain ⟨w,hw⟩ := g.2.2;exact ⟨w,by rw [h.run w (.inr hx)]; exact (h.mark (h.run_rg w x (.inr hx))).2 hw⟩
 · obtain ⟨x,hx,rfl⟩ := hall s h0 h1;obtain ⟨y,hy,rfl⟩ := hall t k0 k1;refine h.cl_res (.inr hx) (.inr hy) fun w => ?_;have := he w;rw [h.run w (.inr hx),h.run w (.inr hy),h.mark (h.run_rg w x (.inr hx)),h.mark (h.run_rg w y (.inr hy))] at this;exact this
end
end
end Go.Proofs.YtkifgffhoenaoaaGreatDoor
