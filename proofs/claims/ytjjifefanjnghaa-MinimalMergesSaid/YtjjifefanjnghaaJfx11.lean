/-
  What the row leans on.
-/
import Derived.Test.YtjjifefanjnghaaBas01
import Derived.Test.YtjjifefanjnghaaJfx10
import Derived.Deep.CutBlock
import Derived.Deep.DeepCutAuto
set_option linter.unusedSimpArgs false
set_option linter.unusedVariables false
namespace Go.Proofs.Ytjjifefanjnghaa
open Go.RowKit
set_option maxRecDepth 100000
theorem eq8_t (a b : Au) (p q : AuP) (w : World) (h1 : Au.At w a p) (h2 : Au.At w b q) (h : a = b) : Calls Try.prog 19 #[a.val p,b.val q] w (Ret (.bool true) w) := by
 refine (eq8_c a b p q w h1 h2).mono ?_;intro e w' hs;exact hs.yes2 h
theorem zeroAt (w : World) : Au.At w ⟨[],0,[],[]⟩ ⟨none,0,none,0,none,0⟩ := ⟨fun h => absurd rfl h,fun h => absurd rfl h,fun h => absurd rfl h,by simp,by simp,by simp⟩
theorem zeroLens : Lens ⟨[],0,[],[]⟩ := ⟨by simp,by simp,by simp⟩
theorem Clz.cons {a : Au} {c : List Int} {m : Nat} (ha : a.Right) (hl : c.length = a.n.toNat) (h : Clz a c m) : ConsV a c := by
 intro i j hi hj he;rw [same1_iff ha];have hE := (h.eq i j hi hj).1 he;have h0 := (hE []).2;simp only [runV] at h0;refine ⟨h0,fun e _ => ?_⟩;have hn := hE.next (Int.natCast_nonneg i) (Int.natCast_nonneg j) e;have h1 := (hn []).1;simp only [runV] at h1;refine ⟨h1,fun g => ?_⟩;have g2 := h1.1 g;have r : ∀ k : Nat,0 ≤ nextV a.ed k e → nextV a.ed k e < a.n := fun k hk => by
  rcases ha.next_cases (k : Int) e with q | ⟨_,q,_⟩
  · omega
  · exact q
 have e1 : (nextV a.ed i e).toNat < c.length := by have := r i g; omega
 have e2 : (nextV a.ed j e).toNat < c.length := by have := r j g2; omega
 have := (h.eq _ _ e1 e2).2 (by rw [Int.toNat_of_nonneg g,Int.toNat_of_nonneg g2]; exact hn);unfold clsV
 rw [getD_lt _ e1,getD_lt _ e2];rw [List.getElem?_eq_getElem e1,List.getElem?_eq_getElem e2] at this;exact Option.some.inj this
def WantIs (a : Au) (c : List Int) (r : Int) : Prop := ((c.length : Int) ≠ a.n ∧ r = 4) ∨ ((c.length : Int) = a.n ∧ ((¬ (∀ x,x ∈ c → 0 ≤ x ∧ x < a.n) ∧ r = 2) ∨ ((∀ x,x ∈ c → 0 ≤ x ∧ x < a.n) ∧ ((¬ ConsV a c ∧ r = 13) ∨ (ConsV a c ∧ r = 0)))))
theorem inR_iff {c : List Int} {n : Int} : (∀ x,x ∈ c → 0 ≤ x ∧ x < n) ↔ ¬ ∃ x,x ∈ c ∧ (x < 0 ∨ n ≤ x) := by
 constructor
 · rintro h ⟨x,hx,g⟩;have := h x hx; omega
 · intro h x hx;refine Classical.byContradiction fun g => h ⟨x,hx,by omega⟩
theorem mg_right {a : Au} {c : List Int} (ha : a.Right) {w w' : World} {e : Ending} (h : GivesMg a c w e w') :
 ∃ r,WantIs a c r ∧ ((r ≠ 0 ∧ e = .returned (.tuple #[.agg #[.slice none 0 0,.int .i64 0,.slice none 0 0,.slice none 0 0],.int .i64 r]) ∧ Below w.heap.size w w') ∨ (r = 0 ∧ ConsV a c ∧ (c.length : Int) = a.n ∧ ∃ m p',e = .returned (.tuple #[m.val p',.int .i64 0]) ∧ (SepW w (eAu m p') w') ∧ Lens m ∧ Mrg a c m)) := by
 obtain ⟨r,⟨h0,he,hb,hm⟩ | ⟨h0,m,p',he,hS,hl,hf⟩⟩ := h
 · refine ⟨r,?_,.inl ⟨h0,he,hb⟩⟩;rcases hm with hm | ⟨_,hm⟩
   · exact absurd (hm.uniq (ChkErr.of_right ha)) h0
   · rcases hm with ⟨g,k⟩ | ⟨g,k,q⟩ | ⟨g,k,q,u⟩
     · exact .inl ⟨g,k⟩
     · exact .inr ⟨g,.inl ⟨fun h => inR_iff.1 h k,q⟩⟩
     · exact .inr ⟨g,.inr ⟨inR_iff.2 k,.inl ⟨q,u⟩⟩⟩
 · obtain ⟨_,g1,g2,g3,g4⟩ := hf.out;exact ⟨0,.inr ⟨g1,.inr ⟨inR_iff.2 g2,.inr ⟨g3,rfl⟩⟩⟩,.inr ⟨rfl,g3,g1,m,p',he,hS,hl.out,g4⟩⟩
theorem mg_ok {a : Au} {c : List Int} {k : Nat} (ha : a.Right) (h0 : 0 < a.n) (hl : c.length = a.n.toNat) (hcz : Clz a c k) {w w' : World} {e : Ending} (h : GivesMg a c w e w') :
 ∃ m p',e = .returned (.tuple #[m.val p',.int .i64 0]) ∧ (SepW w (eAu m p') w') ∧ Lens m ∧ MinB a m := by
 have n0 := ha.n0;obtain ⟨r,hw,⟨h1,_⟩ | ⟨_,_,_,m,p',he,hS,hlm,hg⟩⟩ := mg_right ha h
 · exfalso
   rcases hw with ⟨g,_⟩ | ⟨_,⟨g,_⟩ | ⟨_,⟨g,_⟩ | ⟨_,g⟩⟩⟩
   · omega
   · exact g fun x hx => by
      obtain ⟨s,hs,rfl⟩ := List.mem_iff_getElem.1 hx;have h2 := hcz.can.rg s _ (List.getElem?_eq_getElem hs);have h3 := hcz.can.le;omega
   · exact g (hcz.cons ha hl)
   · exact h1 g
 · exact ⟨m,p',he,hS,hlm,MinB.of_clz hl hcz hg⟩
set_option maxHeartbeats 16000000 in
theorem lawMerges_c (d : Sm4) (AL : Option Addr) (cL : Nat) (l : List Int) (w : World) (hd : d.Ok) (hL : IntsAt w AL l) :
 Calls Try.prog 5 #[.agg d.cells.toArray,.slice AL l.length cL] w (Ret (.bool true) w) := by
 have HD := Lib.hid hd;have HRA := Lib.hid (Sm4.right hd);have HLA := Lib.hid (Sm4.lens hd);have HNE := Lib.hid (Sm4.need hd);have HIL := Lib.hid hL;obtain ⟨hn1,hn6⟩ := Sm4.n_rg hd;have HP1 : Hid (0 < d.au.n) := by show 0 < (d.n : Int); omega
 have HP6 : Hid (d.au.n.toNat ≤ 6) := by show (d.n : Int).toNat ≤ 6; omega
 clear hd hn1 hn6 hL;go_enter Try.func5,Try.ntmps5
 generalize hcs : d.cells = cs;go_upto_region 1 with fail
 refine wp_world (fun W => Sep w.heap.size w [eBlk w.heap.size 46 cs] W) ?_ fun W S => ?_
 · exact (Sep.here w).alloc' _ cs rfl rfl
 rw [← hcs] at S;have SA := Lib.hid S;clear S hcs;by_cases hl8 : l.length > 8
 · have hl8' : decide ((l.length : Int) > 8) = true := decide_eq_true (by omega);have hl8N : decide (8 < l.length) = true := decide_eq_true hl8;go_wp2_with fail
   refine (knownM_c W).mono ?_;rintro e w1 ⟨rfl,hb⟩;have SB := Lib.hid (SA.out.next hb);clear hb SA;go_wp2_with fail
   refine (knownM_c w1).mono ?_;rintro e w2 ⟨rfl,hb⟩;have SC := Lib.hid (SB.out.next hb);clear hb SB;go_wp2_with fail
   go_ret
   exact ⟨rfl,SC.out.below⟩
 have hl8' : decide ((l.length : Int) > 8) = false := decide_eq_false (by omega);have hl8N : decide (8 < l.length) = false := decide_eq_false hl8;have hl9 : l.length ≤ 8 := by omega
 clear hl8;go_wp2_with fail
 refine (knownM_c W).mono ?_;rintro e w1 ⟨rfl,hb⟩;have SB := Lib.hid (SA.out.next hb);clear hb SA;go_wp2_with (refine wpList_load_mid rfl 46 (.tmp 2) rfl w.heap.size 0 rfl d.cells _ (BlkAt.rng (SB.out.get 0 rfl) (fun j v hv => by rw [Nat.zero_add]; exact hv)) Try.underlying46 rfl (Sm4.info HD.out) ?_)
 refine (make4_c d w1 HD.out).mono ?_;rintro e v2 ⟨⟨A1,a1,A2,a2,A3,a3⟩,rfl,TT⟩;have T2 := ckN SB.out TT.out;clear TT SB;dsimp only [Au.val];obtain ⟨ta,ht⟩ : ∃ g,g = v2.heap.size := ⟨_,rfl⟩;go_upto_region 4 with fail
 rw [← ht];refine wp_world (fun V => Sep w.heap.size w [eBlk ta 25 [.slice A1 d.au.al.length a1,.int .i64 d.au.n,.slice A2 d.au.mr.length a2,.slice A3 d.au.ed.length a3],eInts d.au.al (.slice A1 d.au.al.length a1),eInts d.au.mr (.slice A2 d.au.mr.length a2),eEds d.au.ed (.slice A3 d.au.ed.length a3),eBlk w.heap.size 46 d.cells] V) (T2.out.alloc' _ [_,_,_,_] rfl ht) fun W2 S' => ?_;have S2 : (SepW w [eBox ta d.au ⟨A1,a1,A2,a2,A3,a3⟩,eBlk w.heap.size 46 d.cells] W2) := S'.box;clear S' T2 ht;have S0 : (SepW w [eBox ta d.au ⟨A1,a1,A2,a2,A3,a3⟩] W2) := S2.out.pick [0] (by decide);clear S2;go_cut [6,7] (fun x y wx => ∃ (r : Int) (tm : Nat) (mz : Au) (pz : AuP),x = .pointer (some ⟨tm,0,none⟩) ∧ y = .int .i64 r ∧ Hid (WantIs d.au l r) ∧ Hid ((r ≠ 0 ∧ mz = ⟨[],0,[],[]⟩) ∨ (r = 0 ∧ ConsV d.au l ∧ (l.length : Int) = d.au.n ∧ Mrg d.au l mz)) ∧ Hid (Lens mz) ∧ (SepW w [eBox tm mz pz,eBox ta d.au ⟨A1,a1,A2,a2,A3,a3⟩] wx))
 case first =>
  have la0 := BlkAt.cell (S0.out.get 0 rfl).1 0;have la1 := BlkAt.cell (S0.out.get 0 rfl).1 1;have la2 := BlkAt.cell (S0.out.get 0 rfl).1 2;have la3 := BlkAt.cell (S0.out.get 0 rfl).1 3;simp only [List.getElem?_cons_succ,List.getElem?_cons_zero] at la0 la1 la2 la3;go_wp2_with fail
  refine (mergeX_c d.au ⟨A1,a1,A2,a2,A3,a3⟩ AL cL l _ (fun _ => eBox.caps (S0.out.get 0 rfl)) (eBox.at (S0.out.get 0 rfl) HLA.out) (HIL.out.below IntE.stays S0.out.below) (by omega)).mono ?_;intro e v3 hk;obtain ⟨r,hw,⟨h1,rfl,hb⟩ | ⟨h1,hc,hln,m,⟨P1,p1,P2,p2,P3,p3⟩,rfl,TT,hlm,hmr⟩⟩ := mg_right HRA.out hk
  · have HW := Lib.hid hw;have H1 := Lib.hid h1;have S3 := Lib.hid (S0.out.next hb);clear hk hb hw h1 S0 la0 la1 la2 la3;obtain ⟨tm,ht⟩ : ∃ g,g = v3.heap.size := ⟨_,rfl⟩;go_wp2_with fail
    go_meet
    refine ⟨r,tm,⟨[],0,[],[]⟩,⟨none,0,none,0,none,0⟩,by rw [ht],rfl,HW.out,.inl ⟨H1.out,rfl⟩,zeroLens,?_⟩;exact ((((S3.out.nilOwn Ed.cells 3 70).nilOwn encI 1 3).nilOwn encI 1 3).alloc' 25 [_,_,_,_] rfl ht).box
  · subst h1;have HW := Lib.hid hw;have HF := Lib.hid (And.intro hc (And.intro hln hmr));have T3 := ckN S0.out TT.out;clear hk TT hw hc hln hmr S0 la0 la1 la2 la3;dsimp only [Au.val];obtain ⟨tm,ht⟩ : ∃ g,g = v3.heap.size := ⟨_,rfl⟩;go_wp2_with fail
    go_meet
    refine ⟨0,tm,m,⟨P1,p1,P2,p2,P3,p3⟩,by rw [ht],rfl,HW.out,.inr ⟨rfl,HF.out⟩,hlm,?_⟩;exact (T3.out.alloc' 25 [_,_,_,_] rfl ht).box
 case rest =>
  clear S0;obtain ⟨r,tm,mz,pz,rfl,rfl,HW,HFM,HLZ,S⟩ := hcut;go_upto_block 0 with fail
  go_cut [8] (fun v wx => v = .int .i64 r ∧ (SepW w [eBox tm mz pz,eBox ta d.au ⟨A1,a1,A2,a2,A3,a3⟩] wx))
  case first =>
   have HQ1 := Lib.hid (HFM.out);obtain ⟨hne,rfl⟩ | ⟨hle,hrest⟩ := HW.out
   · have hne' : ((l.length : Int) != d.au.n) = true := by simpa using hne
     clear hne;have la0 := BlkAt.cell (S.out.get 1 rfl).1 0;have la1 := BlkAt.cell (S.out.get 1 rfl).1 1;have la2 := BlkAt.cell (S.out.get 1 rfl).1 2;have la3 := BlkAt.cell (S.out.get 1 rfl).1 3;simp only [List.getElem?_cons_succ,List.getElem?_cons_zero] at la0 la1 la2 la3;go_wp2_with fail
     go_meet
     exact ⟨rfl,S.out⟩
   · have hle' : ((l.length : Int) != d.au.n) = false := by simpa using hle
     have HLE := Lib.hid hle;clear hle;have la0 := BlkAt.cell (S.out.get 1 rfl).1 0;have la1 := BlkAt.cell (S.out.get 1 rfl).1 1;have la2 := BlkAt.cell (S.out.get 1 rfl).1 2;have la3 := BlkAt.cell (S.out.get 1 rfl).1 3;simp only [List.getElem?_cons_succ,List.getElem?_cons_zero] at la0 la1 la2 la3;obtain ⟨hin,rfl⟩ | ⟨hin,hrest⟩ := hrest
     · have HIN := Lib.hid hin;clear hin;go_wp2_with fail
       refine (within8_c AL cL l d.au.n _ (HIL.out.below IntE.stays S.out.below) (by omega)).mono ?_;intro e v4 hs;obtain ⟨rfl,hb⟩ := hs.no2 HIN.out;have S4 := Lib.hid (S.out.next hb);clear hb hs S la0 la1 la2 la3;go_wp2_with fail
       go_meet
       exact ⟨rfl,S4.out⟩
     · have HIN := Lib.hid hin;clear hin;go_wp2_with fail
       refine (within8_c AL cL l d.au.n _ (HIL.out.below IntE.stays S.out.below) (by omega)).mono ?_;intro e v4 hs;obtain ⟨rfl,hb⟩ := hs.yes2 HIN.out;have S4 := Lib.hid (S.out.next hb);clear hb hs S la0 la1 la2 la3;have la0 := BlkAt.cell (S4.out.get 1 rfl).1 0;have la1 := BlkAt.cell (S4.out.get 1 rfl).1 1;have la2 := BlkAt.cell (S4.out.get 1 rfl).1 2;have la3 := BlkAt.cell (S4.out.get 1 rfl).1 3;simp only [List.getElem?_cons_succ,List.getElem?_cons_zero] at la0 la1 la2 la3;obtain ⟨hco,rfl⟩ | ⟨hco,rfl⟩ := hrest
       · have HCO := Lib.hid hco;clear hco;go_wp2_with fail
         refine (consR_c d.au ⟨A1,a1,A2,a2,A3,a3⟩ AL cL l v4 HRA.out (eBox.at (S4.out.get 1 rfl) HLA.out) (HIL.out.below IntE.stays S4.out.below) HLE.out).mono ?_;intro e v5 hs;obtain ⟨rfl,hb⟩ := hs.no2 (fun h => HCO.out ((refC_iff HRA.out).1 h));have S5 := Lib.hid (S4.out.next hb);clear hb hs S4 la0 la1 la2 la3;go_wp2_with fail
         go_meet
         exact ⟨rfl,S5.out⟩
       · have HCO := Lib.hid hco;clear hco;go_wp2_with fail
         refine (consR_c d.au ⟨A1,a1,A2,a2,A3,a3⟩ AL cL l v4 HRA.out (eBox.at (S4.out.get 1 rfl) HLA.out) (HIL.out.below IntE.stays S4.out.below) HLE.out).mono ?_;intro e v5 hs;obtain ⟨rfl,hb⟩ := hs.yes2 ((refC_iff HRA.out).2 HCO.out);have S5 := Lib.hid (S4.out.next hb);clear hb hs S4 la0 la1 la2 la3;go_wp2_with fail
         go_meet
         exact ⟨rfl,S5.out⟩
  case rest =>
   clear S;obtain ⟨rfl,S⟩ := hcut;have hrr : (r != r) = false := by simp
   go_upto_region 12 with fail
   go_cut [70] (fun v wx => v = .bool false ∧ (SepW w [eBox tm mz pz,eBox ta d.au ⟨A1,a1,A2,a2,A3,a3⟩] wx))
   case first =>
    obtain ⟨hr0,rfl⟩ | ⟨rfl,hco,hln,hmz⟩ := HFM.out
    · have hr1 : (r != 0) = true := by simpa using hr0
      have hr2 : (r == 0) = false := by simpa using hr0
      clear hr0;have S1 := Lib.hid S.out.drew;refine wp_region_held_drew (S := (fun V => Sep w.heap.size w [eBox tm ⟨[],0,[],[]⟩ pz,eBox ta d.au ⟨A1,a1,A2,a2,A3,a3⟩] V)) (by kernel_rfl) ?_ (fun hH => ?_)
      · exact S1.out.pick [0,1] (by decide)
      generalize hwz : wc.drew = w1 at *;clear hwz;refine tkP 0 rfl (v := ?_) hH ?_;(try simp only [sx]);refine tkP 1 rfl (v := ?_) hH ?_;(try simp only [sx]);refine tkP 2 rfl (v := ?_) hH ?_;(try simp only [sx]);refine tkP 3 rfl (v := ?_) hH ?_;(try simp only [sx]);refine tkP 4 rfl (v := ?_) hH ?_;(try simp only [sx]);refine tkP 5 rfl (v := ?_) hH ?_;(try simp only [sx]);refine tkP 6 rfl (v := ?_) hH ?_;(try simp only [sx]);refine tkH 7 rfl (v := ?_) (by kernel_rfl) ?_ hH ?_;rotate_left
      · intro V hs_;have z0 := BlkAt.cell (Sep.get (show Sep w.heap.size w _ V from hs_) 0 rfl).1 0;have z1 := BlkAt.cell (Sep.get (show Sep w.heap.size w _ V from hs_) 0 rfl).1 1;have z2 := BlkAt.cell (Sep.get (show Sep w.heap.size w _ V from hs_) 0 rfl).1 2;have z3 := BlkAt.cell (Sep.get (show Sep w.heap.size w _ V from hs_) 0 rfl).1 3;simp only [List.getElem?_cons_succ,List.getElem?_cons_zero] at z0 z1 z2 z3;clear hs_;first | (go_simp; done) | (go_simp; with_reducible rfl)
      (try simp only [sx]);refine tkP 8 rfl (v := ?_) hH ?_;(try simp only [sx]);refine rdH 9 rfl fun K hK => ?_;go_simp;refine (eq8_t ⟨[],0,[],[]⟩ ⟨[],0,[],[]⟩ pz ⟨none,0,none,0,none,0⟩ w1 (eBox.at (S1.out.get 0 rfl) HLZ.out) (zeroAt w1) rfl).mono ?_;rintro e w2 ⟨rfl,hb⟩;have S2 := Lib.hid (S1.out.next hb);clear hb;refine hK.out _ _ (S2.out.pick [0,1] (by decide)) fun hH => ?_;clear hK K;(try simp only [sx]);refine tkP 10 rfl (v := ?_) hH ?_;(try simp only [sx]);refine tkP 11 rfl (v := ?_) hH ?_;(try simp only [sx]);refine tkP 12 rfl (v := ?_) hH ?_;(try simp only [sx]);refine tkP 13 rfl (v := ?_) hH ?_;(try simp only [sx]);refine tkP 14 rfl (v := ?_) hH ?_;(try simp only [sx]);refine tkP 15 rfl (v := ?_) hH ?_;(try simp only [sx]);refine tkP 16 rfl (v := ?_) hH ?_;(try simp only [sx]);refine wpAnyH_take (i := 17) (v := undef) rfl (by kernel_rfl) (by kernel_rfl) (by kernel_rfl) (fun _ _ _ h => h) (Or.inr ⟨?_,rfl⟩) hH ?_
      · kernel_rfl
      (try simp only [sx]);refine wpAnyH_take (i := 18) (v := undef) rfl (by kernel_rfl) (by kernel_rfl) (by kernel_rfl) (fun _ _ _ h => h) (Or.inr ⟨?_,rfl⟩) hH ?_
      · kernel_rfl
      (try simp only [sx]);refine wpAnyH_take (i := 19) (v := undef) rfl (by kernel_rfl) (by kernel_rfl) (by kernel_rfl) (fun _ _ _ h => h) (Or.inr ⟨?_,rfl⟩) hH ?_
      · kernel_rfl
      (try simp only [sx]);refine wpAnyH_take (i := 20) (v := undef) rfl (by kernel_rfl) (by kernel_rfl) (by kernel_rfl) (fun _ _ _ h => h) (Or.inr ⟨?_,rfl⟩) hH ?_
      · kernel_rfl
      (try simp only [sx]);refine wpAnyH_take (i := 21) (v := undef) rfl (by kernel_rfl) (by kernel_rfl) (by kernel_rfl) (fun _ _ _ h => h) (Or.inr ⟨?_,rfl⟩) hH ?_
      · kernel_rfl
      (try simp only [sx]);refine wpAnyH_take (i := 22) (v := undef) rfl (by kernel_rfl) (by kernel_rfl) (by kernel_rfl) (fun _ _ _ h => h) (Or.inr ⟨?_,rfl⟩) hH ?_
      · kernel_rfl
      (try simp only [sx]);refine tkP 23 rfl (v := ?_) hH ?_;(try simp only [sx]);refine tkP 24 rfl (v := ?_) hH ?_;(try simp only [sx]);refine wpAnyH_done (by kernel_rfl) ?_ _;have S9 := S2;go_wp2_with fail
      go_meet
      exact ⟨rfl,S9.out⟩
    · have HCO := Lib.hid hco;have HLN : Hid (l.length = d.au.n.toNat) := by have := HRA.out.n0; simp only [Hid]; omega
      have HMZ := Lib.hid hmz;clear hco hln hmz;have S3 := Lib.hid S.out.drew;refine wp_region_held_drew (S := (fun V => Sep w.heap.size w [eBox tm mz pz,eBox ta d.au ⟨A1,a1,A2,a2,A3,a3⟩] V)) (by kernel_rfl) ?_ (fun hH => ?_)
      · exact S3.out.pick [0,1] (by decide)
      generalize hwz : wc.drew = w3 at *;clear hwz;refine tkP 0 rfl (v := ?_) hH ?_;(try simp only [sx]);refine tkP 1 rfl (v := ?_) hH ?_;(try simp only [sx]);refine tkP 2 rfl (v := ?_) hH ?_;(try simp only [sx]);refine tkP 3 rfl (v := ?_) hH ?_;(try simp only [sx]);refine tkP 4 rfl (v := ?_) hH ?_;(try simp only [sx]);refine tkP 5 rfl (v := ?_) hH ?_;(try simp only [sx]);refine tkP 6 rfl (v := ?_) hH ?_;(try simp only [sx]);refine wpAnyH_take (i := 7) (v := undef) rfl (by kernel_rfl) (by kernel_rfl) (by kernel_rfl) (fun _ _ _ h => h) (Or.inr ⟨?_,rfl⟩) hH ?_
      · kernel_rfl
      (try simp only [sx]);refine wpAnyH_take (i := 8) (v := undef) rfl (by kernel_rfl) (by kernel_rfl) (by kernel_rfl) (fun _ _ _ h => h) (Or.inr ⟨?_,rfl⟩) hH ?_
      · kernel_rfl
      (try simp only [sx]);refine wpAnyH_take (i := 9) (v := undef) rfl (by kernel_rfl) (by kernel_rfl) (by kernel_rfl) (fun _ _ _ h => h) (Or.inr ⟨?_,rfl⟩) hH ?_
      · kernel_rfl
      (try simp only [sx]);refine wpAnyH_take (i := 10) (v := undef) rfl (by kernel_rfl) (by kernel_rfl) (by kernel_rfl) (fun _ _ _ h => h) (Or.inr ⟨?_,rfl⟩) hH ?_
      · kernel_rfl
      (try simp only [sx]);refine tkP 11 rfl (v := ?_) hH ?_;(try simp only [sx]);refine tkP 12 rfl (v := ?_) hH ?_;(try simp only [sx]);refine tkP 13 rfl (v := ?_) hH ?_;(try simp only [sx]);refine tkP 14 rfl (v := ?_) hH ?_;(try simp only [sx]);refine tkP 15 rfl (v := ?_) hH ?_;(try simp only [sx]);refine tkP 16 rfl (v := ?_) hH ?_;(try simp only [sx]);refine tkH 17 rfl (v := ?_) (by kernel_rfl) ?_ hH ?_;rotate_left
      · intro V hs_;have z0 := BlkAt.cell (Sep.get (show Sep w.heap.size w _ V from hs_) 0 rfl).1 0;have z1 := BlkAt.cell (Sep.get (show Sep w.heap.size w _ V from hs_) 0 rfl).1 1;have z2 := BlkAt.cell (Sep.get (show Sep w.heap.size w _ V from hs_) 0 rfl).1 2;have z3 := BlkAt.cell (Sep.get (show Sep w.heap.size w _ V from hs_) 0 rfl).1 3;simp only [List.getElem?_cons_succ,List.getElem?_cons_zero] at z0 z1 z2 z3;clear hs_;first | (go_simp; done) | (go_simp; with_reducible rfl)
      (try simp only [sx]);refine tkH 18 rfl (v := ?_) (by kernel_rfl) ?_ hH ?_;rotate_left
      · intro V hs_;have y0 := BlkAt.cell (Sep.get (show Sep w.heap.size w _ V from hs_) 1 rfl).1 0;have y1 := BlkAt.cell (Sep.get (show Sep w.heap.size w _ V from hs_) 1 rfl).1 1;have y2 := BlkAt.cell (Sep.get (show Sep w.heap.size w _ V from hs_) 1 rfl).1 2;have y3 := BlkAt.cell (Sep.get (show Sep w.heap.size w _ V from hs_) 1 rfl).1 3;simp only [List.getElem?_cons_succ,List.getElem?_cons_zero] at y0 y1 y2 y3;clear hs_;first | (go_simp; done) | (go_simp; with_reducible rfl)
      (try simp only [sx]);refine tkP 19 rfl (v := ?_) hH ?_;(try simp only [sx]);refine rdH 20 rfl fun K hK => ?_;go_simp;refine (rmerge_c d.au ⟨A1,a1,A2,a2,A3,a3⟩ AL cL l w3 HRA.out HP1.out (eBox.at (S3.out.get 1 rfl) HLA.out) (HIL.out.below IntE.stays S3.out.below) HLN.out).mono ?_;rintro e_ w4 ⟨m2,M2,M3,k2,k3,rfl,TT,HLm,HMR⟩;have S4 := Lib.hid (S3.out.news TT.out);clear TT;refine hK.out _ _ (S4.out.pick [2,3] (by decide)) fun hH => ?_;clear hK K;(try simp only [sx]);refine rdH 21 rfl fun K hK => ?_;go_simp;refine (eq8_t mz m2 pz ⟨A1,a1,M2,k2,M3,k3⟩ w4 (eBox.at (S4.out.get 2 rfl) HLZ.out) ⟨by rw [HMR.out.1]; exact (eBox.at (S4.out.get 3 rfl) HLA.out).al,S4.out.ints 0 rfl,Own.reads (enc := Ed.cells) (k := 3) (T := 70) (B := 0) (fun _ => rfl) (S4.out.get 1 rfl),HLm.out.1,HLm.out.2.1,HLm.out.2.2⟩ (Mrg.uniq HRA.out HP1.out HLN.out HCO.out HMZ.out HMR.out.2)).mono ?_;rintro e_ w5 ⟨rfl,hb⟩;have S5 := Lib.hid (S4.out.next hb);clear hb;refine hK.out _ _ (S5.out.pick [2,3] (by decide)) fun hH => ?_;clear hK K;(try simp only [sx]);refine tkP 22 rfl (v := ?_) hH ?_;(try simp only [sx]);refine tkP 23 rfl (v := ?_) hH ?_;(try simp only [sx]);refine tkP 24 rfl (v := ?_) hH ?_;(try simp only [sx]);refine wpAnyH_done (by kernel_rfl) ?_ _;have S9 := S5;go_wp2_with fail
      go_meet
      exact ⟨rfl,S9.out.pick [2,3] (by decide)⟩
   case rest =>
    clear S;obtain ⟨rfl,S⟩ := hcut;go_upto_region 14 with fail
    go_cut [9,10] (fun x y wx => ∃ (tx : Nat) (m : Au) (p : AuP),x = .pointer (some ⟨tx,0,none⟩) ∧ y = .int .i64 0 ∧ Hid (Lens m) ∧ Hid (MinB d.au m) ∧ (SepW w [eBox tx m p,eBox ta d.au ⟨A1,a1,A2,a2,A3,a3⟩] wx))
    case first =>
     have S6 := Lib.hid S.out.drew;refine wp_region_held_drew (S := (fun V => Sep w.heap.size w [eBox ta d.au ⟨A1,a1,A2,a2,A3,a3⟩] V)) (by kernel_rfl) ?_ (fun hH => ?_)
     · exact S6.out.pick [1] (by decide)
     generalize hwz : wc.drew = w6 at *;clear hwz;rw [show Array.replicate _ false = #[false,false,false,false,false,false,false,false,false,false] from rfl];refine tkH 0 rfl (v := ?_) (by kernel_rfl) ?_ hH ?_;rotate_left
     · intro V hs_;have y0 := BlkAt.cell (Sep.get (show Sep w.heap.size w _ V from hs_) 0 rfl).1 0;have y1 := BlkAt.cell (Sep.get (show Sep w.heap.size w _ V from hs_) 0 rfl).1 1;have y2 := BlkAt.cell (Sep.get (show Sep w.heap.size w _ V from hs_) 0 rfl).1 2;have y3 := BlkAt.cell (Sep.get (show Sep w.heap.size w _ V from hs_) 0 rfl).1 3;simp only [List.getElem?_cons_succ,List.getElem?_cons_zero] at y0 y1 y2 y3;clear hs_;first | (go_simp; done) | (go_simp; with_reducible rfl)
     (try simp only [sx]);refine tkH 1 rfl (v := ?_) (by kernel_rfl) ?_ hH ?_;rotate_left
     · intro V hs_;have y0 := BlkAt.cell (Sep.get (show Sep w.heap.size w _ V from hs_) 0 rfl).1 0;have y1 := BlkAt.cell (Sep.get (show Sep w.heap.size w _ V from hs_) 0 rfl).1 1;have y2 := BlkAt.cell (Sep.get (show Sep w.heap.size w _ V from hs_) 0 rfl).1 2;have y3 := BlkAt.cell (Sep.get (show Sep w.heap.size w _ V from hs_) 0 rfl).1 3;simp only [List.getElem?_cons_succ,List.getElem?_cons_zero] at y0 y1 y2 y3;clear hs_;first | (go_simp; done) | (go_simp; with_reducible rfl)
     (try simp only [sx]);refine act_name ?_;intro A0 hA0;obtain ⟨F,hF⟩ : ∃ F : Value → Value → Value → Value → Value → Value → Value → Act,Hid (∀ x74 x75 x71 x76 x77 x9 x10,F x74 x75 x71 x76 x77 x9 x10 = (((((((A0.put (some 74) x74).put (some 75) x75).put (some 71) x71).put (some 76) x76).put (some 77) x77).put (some 9) x9).put (some 10) x10)) := ⟨fun x74 x75 x71 x76 x77 x9 x10 => (((((((A0.put (some 74) x74).put (some 75) x75).put (some 71) x71).put (some 76) x76).put (some 77) x77).put (some 9) x9).put (some 10) x10),fun _ _ _ _ _ _ _ => rfl⟩;subst hA0;unfold Hid at hF
     simp only [List.getElem_toArray,List.getElem_cons_zero,List.getElem_cons_succ,Act.put,List.setIfInBounds_toArray,List.set_cons_zero,List.set_cons_succ] at hF;have HF := Lib.hid hF;clear hF
     obtain ⟨INV,hI⟩ : ∃ I : Array Bool → Act → World → Prop,Hid (∀ l_ a_ W_,I l_ a_ W_ ↔ ∃ (fb2 fb3 fb4 fb5 fb6 fb7 fb8 fb9 : Bool) (x74 x75 x71 x76 x77 x9 x10 : Value) (E_cl E_mg E_ex E_tx : Ent),l_ = #[true,true,fb2,fb3,fb4,fb5,fb6,fb7,fb8,fb9] ∧ a_ = F x74 x75 x71 x76 x77 x9 x10 ∧ (SepW w [E_cl,E_mg,E_ex,E_tx,eBox tm mz pz,eBox ta d.au ⟨A1,a1,A2,a2,A3,a3⟩] W_) ∧ True ∧ Hid (fb3 = true → fb2 = true) ∧ Hid (fb4 = true → fb3 = true) ∧ Hid (fb5 = true → fb4 = true) ∧ Hid (fb6 = true → fb4 = true) ∧ Hid (fb8 = true → fb5 = true) ∧ Hid (fb8 = true → fb7 = true) ∧ Hid (fb9 = true → fb6 = true) ∧ Hid (fb9 = true → fb8 = true) ∧ Hid (fb4 = true → x71 = x75) ∧ Hid (fb6 = true → x77 = .int .i64 0) ∧ Hid (fb9 = true → x10 = .int .i64 0) ∧ Hid (fb2 = false → E_cl = eNo) ∧ Hid (fb2 = true → ∃ (A : Option Addr) (k : Nat) (c : List Int) (m : Nat),x74 = .slice A c.length k ∧ E_cl = eInts c (.slice A c.length k) ∧ c.length = d.au.n.toNat ∧ Clz d.au c m) ∧ Hid (fb3 = false → E_mg = eNo) ∧ Hid (fb3 = true → ∃ (m : Au) (p : AuP),x75 = .tuple #[(.agg #[.slice p.A1 m.al.length p.c1,.int .i64 m.n,.slice p.A2 m.mr.length p.c2,.slice p.A3 m.ed.length p.c3] : Value),.int .i64 0] ∧ E_mg = eLs m p ∧ Lens m ∧ MinB d.au m) ∧ Hid (fb5 = false → E_ex = eNo) ∧ Hid (fb5 = true → ∃ (m : Au) (p : AuP),x76 = (.agg #[.slice p.A1 m.al.length p.c1,.int .i64 m.n,.slice p.A2 m.mr.length p.c2,.slice p.A3 m.ed.length p.c3] : Value) ∧ E_ex = eNo ∧ E_mg = eLs m p ∧ Lens m ∧ MinB d.au m) ∧ Hid (fb7 = false → E_tx = eNo) ∧ Hid (fb7 = true → fb8 = false → ∃ g,x9 = .pointer (some ⟨g,0,none⟩) ∧ E_tx = eBlk g 25 [.slice none 0 0,.int .i64 0,.slice none 0 0,.slice none 0 0]) ∧ Hid (fb8 = true → ∃ (g : Nat) (m : Au) (p : AuP),x9 = .pointer (some ⟨g,0,none⟩) ∧ E_tx = eBlk g 25 [.slice p.A1 m.al.length p.c1,.int .i64 m.n,.slice p.A2 m.mr.length p.c2,.slice p.A3 m.ed.length p.c3] ∧ E_mg = eLs m p ∧ Lens m ∧ MinB d.au m)) := ⟨_,fun _ _ _ => Iff.rfl⟩
     refine wpAnyH_inv (INV := INV) (D := [[],[],[1],[0,2],[3],[4],[4],[],[0,1,2,3,4,5,7],[0,1,2,3,4,5,6,7,8]]) [2,3,4,5,6,7,8,9] (by kernel_rfl) (fun l_ a_ W_ h => ?_) (fun l_ a_ W_ h => ?_) (fun l_ a_ W_ h hall => ?_) ?_ _ _ _ _ (by decide) ?_
     · obtain ⟨fb2,fb3,fb4,fb5,fb6,fb7,fb8,fb9,x74,x75,x71,x76,x77,x9,x10,E_cl,E_mg,E_ex,E_tx,rfl,rfl,S_,_,mf2_3,mf3_4,mf4_5,mf4_6,mf5_8,mf7_8,mf6_9,mf8_9,cf4,cf6,cf9,d_cl,d_cl0,d_mg,d_mg0,d_ex,d_ex0,d_tx,d_tx0,d_tx1⟩ := (hI.out _ _ _).1 h;exact S_.out.pick [5] (by decide)
     · obtain ⟨fb2,fb3,fb4,fb5,fb6,fb7,fb8,fb9,x74,x75,x71,x76,x77,x9,x10,E_cl,E_mg,E_ex,E_tx,rfl,rfl,S_,_,mf2_3,mf3_4,mf4_5,mf4_6,mf5_8,mf7_8,mf6_9,mf8_9,cf4,cf6,cf9,d_cl,d_cl0,d_mg,d_mg0,d_ex,d_ex0,d_tx,d_tx0,d_tx1⟩ := (hI.out _ _ _).1 h;rfl
     · obtain ⟨fb2,fb3,fb4,fb5,fb6,fb7,fb8,fb9,x74,x75,x71,x76,x77,x9,x10,E_cl,E_mg,E_ex,E_tx,rfl,rfl,S_,_,mf2_3,mf3_4,mf4_5,mf4_6,mf5_8,mf7_8,mf6_9,mf8_9,cf4,cf6,cf9,d_cl,d_cl0,d_mg,d_mg0,d_ex,d_ex0,d_tx,d_tx0,d_tx1⟩ := (hI.out _ _ _).1 h;obtain rfl : fb2 = true := hall 2 (by decide);obtain rfl : fb3 = true := hall 3 (by decide);obtain rfl : fb4 = true := hall 4 (by decide);obtain rfl : fb5 = true := hall 5 (by decide);obtain rfl : fb6 = true := hall 6 (by decide);obtain rfl : fb7 = true := hall 7 (by decide);obtain rfl : fb8 = true := hall 8 (by decide);obtain rfl : fb9 = true := hall 9 (by decide);clear hall h hI INV;rw [HF.out];clear HF F;obtain rfl := cf4.out rfl;obtain rfl := cf6.out rfl;obtain rfl := cf9.out rfl;have v_cl := d_cl0.out rfl;have v_mg := d_mg0.out rfl;have v_ex := d_ex0.out rfl;have v_tx := d_tx1.out rfl;clear mf2_3 mf3_4 mf4_5 mf4_6 mf5_8 mf7_8 mf6_9 mf8_9 cf4 cf6 cf9 d_cl d_cl0 d_mg d_mg0 d_ex d_ex0 d_tx d_tx0 d_tx1;obtain ⟨g,m,p,rfl,rfl,rfl,hlm,hmb⟩ := v_tx;have S9 := S_;go_wp2_with fail
       go_meet
       exact ⟨g,m,p,rfl,rfl,hlm,hmb,(S9.out.pick [3,1,5] (by decide) : Sep w.heap.size w [_,_,_] _).join⟩
     · clear hH S6;refine StepsI.cons rfl (fun l_ a_ W_ h hf hd K hK => ?_) (StepsI.cons rfl (fun l_ a_ W_ h hf hd K hK => ?_) (StepsI.cons rfl (fun l_ a_ W_ h hf hd K hK => ?_) (StepsI.cons rfl (fun l_ a_ W_ h hf hd K hK => ?_) (StepsI.cons rfl (fun l_ a_ W_ h hf hd K hK => ?_) (StepsI.cons rfl (fun l_ a_ W_ h hf hd K hK => ?_) (StepsI.cons rfl (fun l_ a_ W_ h hf hd K hK => ?_) (StepsI.cons rfl (fun l_ a_ W_ h hf hd K hK => ?_) (StepsI.nil))))))))
       · obtain ⟨fb2,fb3,fb4,fb5,fb6,fb7,fb8,fb9,x74,x75,x71,x76,x77,x9,x10,E_cl,E_mg,E_ex,E_tx,rfl,rfl,S_,_,mf2_3,mf3_4,mf4_5,mf4_6,mf5_8,mf7_8,mf6_9,mf8_9,cf4,cf6,cf9,d_cl,d_cl0,d_mg,d_mg0,d_ex,d_ex0,d_tx,d_tx0,d_tx1⟩ := (hI.out _ _ _).1 h;obtain rfl : fb2 = false := hf;clear h;obtain rfl : fb3 = false := by cases fb3 with | false => rfl | true => exact nomatch (mf2_3.out rfl)
         obtain rfl : fb4 = false := by cases fb4 with | false => rfl | true => exact nomatch (mf3_4.out rfl)
         obtain rfl : fb5 = false := by cases fb5 with | false => rfl | true => exact nomatch (mf4_5.out rfl)
         obtain rfl : fb6 = false := by cases fb6 with | false => rfl | true => exact nomatch (mf4_6.out rfl)
         obtain rfl : fb8 = false := by cases fb8 with | false => rfl | true => exact nomatch (mf5_8.out rfl)
         obtain rfl : fb9 = false := by cases fb9 with | false => rfl | true => exact nomatch (mf6_9.out rfl)
         clear hd;rw [HF.out];have v_cl := d_cl.out rfl;have v_mg := d_mg.out rfl;have v_ex := d_ex.out rfl;obtain rfl := v_cl;go_simp;refine (clsR_c d.au ⟨A1,a1,A2,a2,A3,a3⟩ W_ HRA.out (eBox.at (S_.out.get 5 rfl) HLA.out) HNE.out).mono ?_;rintro e_ W2 ⟨AR,kR,cc,kk,rfl,HCX,TT⟩;have S2 := Lib.hid (S_.out.fill1 0 rfl TT.out);clear TT;(try simp only [sx]);refine hK.out _ _ ((hI.out _ _ _).2 ⟨true,false,false,false,false,fb7,false,false,_,_,_,_,_,_,_,_,_,_,_,rfl,(HF.out _ _ _ _ _ _ _).symm,S2,trivial,(fun _ => rfl),(fun h => nomatch h),(fun h => nomatch h),(fun h => nomatch h),(fun h => nomatch h),(fun h => nomatch h),(fun h => nomatch h),(fun h => nomatch h),(fun h => nomatch h),(fun h => nomatch h),(fun h => nomatch h),(fun h => nomatch h),(fun _ => ⟨_,_,_,_,rfl,rfl,HCX.out.1,HCX.out.2⟩),d_mg,(fun h => nomatch h),d_ex,(fun h => nomatch h),d_tx,d_tx0,(fun h => nomatch h)⟩)
       · obtain ⟨fb2,fb3,fb4,fb5,fb6,fb7,fb8,fb9,x74,x75,x71,x76,x77,x9,x10,E_cl,E_mg,E_ex,E_tx,rfl,rfl,S_,_,mf2_3,mf3_4,mf4_5,mf4_6,mf5_8,mf7_8,mf6_9,mf8_9,cf4,cf6,cf9,d_cl,d_cl0,d_mg,d_mg0,d_ex,d_ex0,d_tx,d_tx0,d_tx1⟩ := (hI.out _ _ _).1 h;obtain rfl : fb3 = false := hf;clear h;obtain rfl : fb2 = true := hd 2 (by decide);obtain rfl : fb4 = false := by cases fb4 with | false => rfl | true => exact nomatch (mf3_4.out rfl)
         obtain rfl : fb5 = false := by cases fb5 with | false => rfl | true => exact nomatch (mf4_5.out rfl)
         obtain rfl : fb6 = false := by cases fb6 with | false => rfl | true => exact nomatch (mf4_6.out rfl)
         obtain rfl : fb8 = false := by cases fb8 with | false => rfl | true => exact nomatch (mf5_8.out rfl)
         obtain rfl : fb9 = false := by cases fb9 with | false => rfl | true => exact nomatch (mf6_9.out rfl)
         clear hd;rw [HF.out];have v_cl := d_cl0.out rfl;have v_mg := d_mg.out rfl;have v_ex := d_ex.out rfl;obtain rfl := v_mg;obtain ⟨AR,kR,cc,kk,rfl,rfl,hcl,hcz⟩ := v_cl;have HCL := Lib.hid hcl;clear hcl;go_simp;refine (mergeX_c d.au ⟨A1,a1,A2,a2,A3,a3⟩ AR kR cc W_ (fun _ => eBox.caps (S_.out.get 5 rfl)) (eBox.at (S_.out.get 5 rfl) HLA.out) (S_.out.ints 0 rfl) (by have := HP6.out; have := HCL.out; omega)).mono ?_;intro e_ W2 hk;obtain ⟨m,p,rfl,TT,hlm,hmr⟩ := mg_ok HRA.out HP1.out HCL.out hcz hk;have T2 := Lib.hid (Sep.ls TT.out);have S2 := Lib.hid (S_.out.fill1 1 rfl T2.out);clear TT T2 hk;(try simp only [sx]);refine hK.out _ _ ((hI.out _ _ _).2 ⟨true,true,false,false,false,fb7,false,false,_,_,_,_,_,_,_,_,_,_,_,rfl,(HF.out _ _ _ _ _ _ _).symm,S2,trivial,(fun _ => rfl),(fun _ => rfl),(fun h => nomatch h),(fun h => nomatch h),(fun h => nomatch h),(fun h => nomatch h),(fun h => nomatch h),(fun h => nomatch h),(fun h => nomatch h),(fun h => nomatch h),(fun h => nomatch h),(fun h => nomatch h),d_cl0,(fun h => nomatch h),(fun _ => ⟨_,p,rfl,rfl,hlm,hmr⟩),d_ex,(fun h => nomatch h),d_tx,d_tx0,(fun h => nomatch h)⟩)
       · obtain ⟨fb2,fb3,fb4,fb5,fb6,fb7,fb8,fb9,x74,x75,x71,x76,x77,x9,x10,E_cl,E_mg,E_ex,E_tx,rfl,rfl,S_,_,mf2_3,mf3_4,mf4_5,mf4_6,mf5_8,mf7_8,mf6_9,mf8_9,cf4,cf6,cf9,d_cl,d_cl0,d_mg,d_mg0,d_ex,d_ex0,d_tx,d_tx0,d_tx1⟩ := (hI.out _ _ _).1 h;obtain rfl : fb4 = false := hf;clear h;obtain rfl : fb3 = true := hd 3 (by decide);obtain rfl : fb2 = true := mf2_3.out rfl;obtain rfl : fb5 = false := by cases fb5 with | false => rfl | true => exact nomatch (mf4_5.out rfl)
         obtain rfl : fb6 = false := by cases fb6 with | false => rfl | true => exact nomatch (mf4_6.out rfl)
         obtain rfl : fb8 = false := by cases fb8 with | false => rfl | true => exact nomatch (mf5_8.out rfl)
         obtain rfl : fb9 = false := by cases fb9 with | false => rfl | true => exact nomatch (mf6_9.out rfl)
         clear hd;rw [HF.out];have v_cl := d_cl0.out rfl;have v_mg := d_mg0.out rfl;have v_ex := d_ex.out rfl;go_simp;(try simp only [sx]);refine hK.out _ _ ((hI.out _ _ _).2 ⟨true,true,true,false,false,fb7,false,false,_,_,_,_,_,_,_,_,_,_,_,rfl,(HF.out _ _ _ _ _ _ _).symm,S_,trivial,(fun _ => rfl),(fun _ => rfl),(fun _ => rfl),(fun _ => rfl),(fun h => nomatch h),(fun h => nomatch h),(fun h => nomatch h),(fun h => nomatch h),(fun _ => rfl),(fun h => nomatch h),(fun h => nomatch h),(fun h => nomatch h),d_cl0,(fun h => nomatch h),d_mg0,d_ex,(fun h => nomatch h),d_tx,d_tx0,(fun h => nomatch h)⟩)
       · obtain ⟨fb2,fb3,fb4,fb5,fb6,fb7,fb8,fb9,x74,x75,x71,x76,x77,x9,x10,E_cl,E_mg,E_ex,E_tx,rfl,rfl,S_,_,mf2_3,mf3_4,mf4_5,mf4_6,mf5_8,mf7_8,mf6_9,mf8_9,cf4,cf6,cf9,d_cl,d_cl0,d_mg,d_mg0,d_ex,d_ex0,d_tx,d_tx0,d_tx1⟩ := (hI.out _ _ _).1 h;obtain rfl : fb5 = false := hf;clear h;obtain rfl : fb4 = true := hd 4 (by decide);obtain rfl : fb3 = true := mf3_4.out rfl;obtain rfl : fb2 = true := mf2_3.out rfl;obtain rfl : fb8 = false := by cases fb8 with | false => rfl | true => exact nomatch (mf5_8.out rfl)
         obtain rfl : fb9 = false := by cases fb9 with | false => rfl | true => exact nomatch (mf8_9.out rfl)
         clear hd;rw [HF.out];obtain rfl := cf4.out rfl;have v_cl := d_cl0.out rfl;have v_mg := d_mg0.out rfl;have v_ex := d_ex.out rfl;obtain rfl := v_ex;obtain ⟨m,p,rfl,rfl,hlm,hmr⟩ := v_mg;go_simp;(try simp only [sx]);refine hK.out _ _ ((hI.out _ _ _).2 ⟨true,true,true,true,fb6,fb7,false,false,_,_,_,_,_,_,_,_,_,_,_,rfl,(HF.out _ _ _ _ _ _ _).symm,S_,trivial,(fun _ => rfl),(fun _ => rfl),(fun _ => rfl),(fun _ => rfl),(fun _ => rfl),(fun h => nomatch h),(fun h => nomatch h),(fun h => nomatch h),cf4,cf6,(fun h => nomatch h),(fun h => nomatch h),d_cl0,(fun h => nomatch h),d_mg0,(fun h => nomatch h),(fun _ => ⟨m,p,rfl,rfl,rfl,hlm,hmr⟩),d_tx,d_tx0,(fun h => nomatch h)⟩)
       · obtain ⟨fb2,fb3,fb4,fb5,fb6,fb7,fb8,fb9,x74,x75,x71,x76,x77,x9,x10,E_cl,E_mg,E_ex,E_tx,rfl,rfl,S_,_,mf2_3,mf3_4,mf4_5,mf4_6,mf5_8,mf7_8,mf6_9,mf8_9,cf4,cf6,cf9,d_cl,d_cl0,d_mg,d_mg0,d_ex,d_ex0,d_tx,d_tx0,d_tx1⟩ := (hI.out _ _ _).1 h;obtain rfl : fb6 = false := hf;clear h;obtain rfl : fb4 = true := hd 4 (by decide);obtain rfl : fb3 = true := mf3_4.out rfl;obtain rfl : fb2 = true := mf2_3.out rfl;obtain rfl : fb9 = false := by cases fb9 with | false => rfl | true => exact nomatch (mf6_9.out rfl)
         clear hd;rw [HF.out];obtain rfl := cf4.out rfl;have v_cl := d_cl0.out rfl;have v_mg := d_mg0.out rfl;obtain ⟨m,p,rfl,_⟩ := v_mg;go_simp;(try simp only [sx]);refine hK.out _ _ ((hI.out _ _ _).2 ⟨true,true,true,fb5,true,fb7,fb8,false,_,_,_,_,_,_,_,_,_,_,_,rfl,(HF.out _ _ _ _ _ _ _).symm,S_,trivial,(fun _ => rfl),(fun _ => rfl),(fun _ => rfl),(fun _ => rfl),mf5_8,mf7_8,(fun _ => rfl),(fun h => nomatch h),cf4,(fun _ => rfl),(fun h => nomatch h),(fun h => nomatch h),d_cl0,(fun h => nomatch h),d_mg0,d_ex,d_ex0,d_tx,d_tx0,d_tx1⟩)
       · obtain ⟨fb2,fb3,fb4,fb5,fb6,fb7,fb8,fb9,x74,x75,x71,x76,x77,x9,x10,E_cl,E_mg,E_ex,E_tx,rfl,rfl,S_,_,mf2_3,mf3_4,mf4_5,mf4_6,mf5_8,mf7_8,mf6_9,mf8_9,cf4,cf6,cf9,d_cl,d_cl0,d_mg,d_mg0,d_ex,d_ex0,d_tx,d_tx0,d_tx1⟩ := (hI.out _ _ _).1 h;obtain rfl : fb7 = false := hf;clear h;obtain rfl : fb8 = false := by cases fb8 with | false => rfl | true => exact nomatch (mf7_8.out rfl)
         obtain rfl : fb9 = false := by cases fb9 with | false => rfl | true => exact nomatch (mf8_9.out rfl)
         clear hd;rw [HF.out];have v_tx := d_tx.out rfl;obtain rfl := v_tx;go_simp;obtain ⟨g2,hg2⟩ : ∃ g,g = W_.heap.size := ⟨_,rfl⟩;obtain ⟨W2,hW2⟩ : ∃ v,v = W_.alloc (.cells #[.slice none 0 0,.int .i64 0,.slice none 0 0,.slice none 0 0] 25) := ⟨_,rfl⟩;rw [← hW2,← hg2];have S2 := Lib.hid (S_.out.fillAlloc 3 rfl 25 [.slice none 0 0,.int .i64 0,.slice none 0 0,.slice none 0 0] (o := .cells #[.slice none 0 0,.int .i64 0,.slice none 0 0,.slice none 0 0] 25) rfl hg2);rw [← hW2] at S2;clear hW2 hg2;(try simp only [sx]);refine hK.out _ _ ((hI.out _ _ _).2 ⟨fb2,fb3,fb4,fb5,fb6,true,false,false,_,_,_,_,_,_,_,_,_,_,_,rfl,(HF.out _ _ _ _ _ _ _).symm,S2,trivial,mf2_3,mf3_4,mf4_5,mf4_6,(fun h => nomatch h),(fun _ => rfl),(fun h => nomatch h),(fun h => nomatch h),cf4,cf6,(fun h => nomatch h),d_cl,d_cl0,d_mg,d_mg0,d_ex,d_ex0,(fun h => nomatch h),(fun _ _ => ⟨_,rfl,rfl⟩),(fun h => nomatch h)⟩)
       · obtain ⟨fb2,fb3,fb4,fb5,fb6,fb7,fb8,fb9,x74,x75,x71,x76,x77,x9,x10,E_cl,E_mg,E_ex,E_tx,rfl,rfl,S_,_,mf2_3,mf3_4,mf4_5,mf4_6,mf5_8,mf7_8,mf6_9,mf8_9,cf4,cf6,cf9,d_cl,d_cl0,d_mg,d_mg0,d_ex,d_ex0,d_tx,d_tx0,d_tx1⟩ := (hI.out _ _ _).1 h;obtain rfl : fb8 = false := hf;clear h;obtain rfl : fb2 = true := hd 2 (by decide);obtain rfl : fb3 = true := hd 3 (by decide);obtain rfl : fb4 = true := hd 4 (by decide);obtain rfl : fb5 = true := hd 5 (by decide);obtain rfl : fb7 = true := hd 7 (by decide);obtain rfl : fb9 = false := by cases fb9 with | false => rfl | true => exact nomatch (mf8_9.out rfl)
         clear hd;rw [HF.out];obtain rfl := cf4.out rfl;have v_cl := d_cl0.out rfl;have v_mg := d_mg0.out rfl;have v_ex := d_ex0.out rfl;have v_tx := d_tx0.out rfl rfl;obtain ⟨g,rfl,rfl⟩ := v_tx;obtain ⟨m,p,rfl,_,rfl,hlm,hmr⟩ := v_ex;have sc0 := ckC S_.out 3 rfl 0 rfl;have sf0 := BlkAt.free (S_.out.get 3 rfl) 0;have sc1 := ckC S_.out 3 rfl 1 rfl;have sf1 := BlkAt.free (S_.out.get 3 rfl) 1;have sc2 := ckC S_.out 3 rfl 2 rfl;have sf2 := BlkAt.free (S_.out.get 3 rfl) 2;have sc3 := ckC S_.out 3 rfl 3 rfl;have sf3 := BlkAt.free (S_.out.get 3 rfl) 3;go_simp;obtain ⟨W2,hW2⟩ : ∃ v,v = ((((W_.setCell ⟨g,0,none⟩ (.slice p.A1 m.al.length p.c1)).setCell ⟨g,1,none⟩ (.int .i64 m.n)).setCell ⟨g,2,none⟩ (.slice p.A2 m.mr.length p.c2)).setCell ⟨g,3,none⟩ (.slice p.A3 m.ed.length p.c3)) := ⟨_,rfl⟩;rw [← hW2];have S2 := Lib.hid ((((S_.out.set 3 rfl 0 (.slice p.A1 m.al.length p.c1)).set 3 rfl 1 (.int .i64 m.n)).set 3 rfl 2 (.slice p.A2 m.mr.length p.c2)).set 3 rfl 3 (.slice p.A3 m.ed.length p.c3));rw [← hW2] at S2;clear hW2 sc0 sf0 sc1 sf1 sc2 sf2 sc3 sf3;try simp only [sx]
         refine hK.out _ _ ((hI.out _ _ _).2 ⟨true,true,true,true,fb6,true,true,false,_,_,_,_,_,_,_,_,_,_,_,rfl,(HF.out _ _ _ _ _ _ _).symm,S2,trivial,(fun _ => rfl),(fun _ => rfl),(fun _ => rfl),(fun _ => rfl),(fun _ => rfl),(fun _ => rfl),(fun h => nomatch h),(fun _ => rfl),cf4,cf6,(fun h => nomatch h),(fun h => nomatch h),d_cl0,(fun h => nomatch h),d_mg0,(fun h => nomatch h),d_ex0,(fun h => nomatch h),(fun _ h => nomatch h),(fun _ => ⟨_,m,p,rfl,rfl,rfl,hlm,hmr⟩)⟩)
       · obtain ⟨fb2,fb3,fb4,fb5,fb6,fb7,fb8,fb9,x74,x75,x71,x76,x77,x9,x10,E_cl,E_mg,E_ex,E_tx,rfl,rfl,S_,_,mf2_3,mf3_4,mf4_5,mf4_6,mf5_8,mf7_8,mf6_9,mf8_9,cf4,cf6,cf9,d_cl,d_cl0,d_mg,d_mg0,d_ex,d_ex0,d_tx,d_tx0,d_tx1⟩ := (hI.out _ _ _).1 h;obtain rfl : fb9 = false := hf;clear h;obtain rfl : fb2 = true := hd 2 (by decide);obtain rfl : fb3 = true := hd 3 (by decide);obtain rfl : fb4 = true := hd 4 (by decide);obtain rfl : fb5 = true := hd 5 (by decide);obtain rfl : fb6 = true := hd 6 (by decide);obtain rfl : fb7 = true := hd 7 (by decide);obtain rfl : fb8 = true := hd 8 (by decide);clear hd;rw [HF.out];obtain rfl := cf4.out rfl;obtain rfl := cf6.out rfl;have v_cl := d_cl0.out rfl;have v_mg := d_mg0.out rfl;have v_ex := d_ex0.out rfl;have v_tx := d_tx1.out rfl;go_simp;(try simp only [sx]);refine hK.out _ _ ((hI.out _ _ _).2 ⟨true,true,true,true,true,true,true,true,_,_,_,_,_,_,_,_,_,_,_,rfl,(HF.out _ _ _ _ _ _ _).symm,S_,trivial,(fun _ => rfl),(fun _ => rfl),(fun _ => rfl),(fun _ => rfl),(fun _ => rfl),(fun _ => rfl),(fun _ => rfl),(fun _ => rfl),cf4,cf6,(fun _ => rfl),(fun h => nomatch h),d_cl0,(fun h => nomatch h),d_mg0,(fun h => nomatch h),d_ex0,(fun h => nomatch h),(fun _ h => nomatch h),d_tx1⟩)
     · refine (hI.out _ _ _).2 ⟨false,false,false,false,false,false,false,false,_,_,_,_,_,_,_,eNo,eNo,eNo,eNo,rfl,(HF.out _ _ _ _ _ _ _).symm,(S6.out.no.no.no.no : Sep w.heap.size w [eNo,eNo,eNo,eNo,eBox tm mz pz,eBox ta d.au ⟨A1,a1,A2,a2,A3,a3⟩] w6),trivial,(fun h => nomatch h),(fun h => nomatch h),(fun h => nomatch h),(fun h => nomatch h),(fun h => nomatch h),(fun h => nomatch h),(fun h => nomatch h),(fun h => nomatch h),(fun h => nomatch h),(fun h => nomatch h),(fun h => nomatch h),(fun _ => rfl),(fun h => nomatch h),(fun _ => rfl),(fun h => nomatch h),(fun _ => rfl),(fun h => nomatch h),(fun _ => rfl),(fun h => nomatch h),(fun h => nomatch h)⟩
    case rest =>
     clear S;obtain ⟨tx,m,p,rfl,rfl,HLm,HMm,S⟩ := hcut;have la0 := BlkAt.cell (S.out.get 1 rfl).1 0;have la1 := BlkAt.cell (S.out.get 1 rfl).1 1;have la2 := BlkAt.cell (S.out.get 1 rfl).1 2;have la3 := BlkAt.cell (S.out.get 1 rfl).1 3;simp only [List.getElem?_cons_succ,List.getElem?_cons_zero] at la0 la1 la2 la3;go_wp2_with fail
     refine (minimizeB_c d.au ⟨A1,a1,A2,a2,A3,a3⟩ _ HRA.out (eBox.caps (S.out.get 1 rfl)) (eBox.at (S.out.get 1 rfl) HLA.out)).mono ?_;rintro e v7 ⟨y,⟨Y1,y1,Y2,y2,Y3,y3⟩,rfl,TT,HLy,HMy⟩;have T7 := ckN S.out TT.out;clear TT S;dsimp only [Au.val];obtain ⟨ty,ht⟩ : ∃ g,g = v7.heap.size := ⟨_,rfl⟩;go_upto_region 16 with fail
     rw [← ht];refine wp_world (fun V => Sep w.heap.size w [eBlk ty 25 [.slice Y1 y.al.length y1,.int .i64 y.n,.slice Y2 y.mr.length y2,.slice Y3 y.ed.length y3],eInts y.al (.slice Y1 y.al.length y1),eInts y.mr (.slice Y2 y.mr.length y2),eEds y.ed (.slice Y3 y.ed.length y3),eBox tx m p,eBox ta d.au ⟨A1,a1,A2,a2,A3,a3⟩] V) (T7.out.alloc' _ [_,_,_,_] rfl ht) fun W7 S' => ?_;have S7 : (SepW w [eBox ty y ⟨Y1,y1,Y2,y2,Y3,y3⟩,eBox tx m p,eBox ta d.au ⟨A1,a1,A2,a2,A3,a3⟩] W7) := S'.box;clear S' T7 ht;have ly0 := BlkAt.cell (S7.out.get 0 rfl).1 0;have ly1 := BlkAt.cell (S7.out.get 0 rfl).1 1;have ly2 := BlkAt.cell (S7.out.get 0 rfl).1 2;have ly3 := BlkAt.cell (S7.out.get 0 rfl).1 3;simp only [List.getElem?_cons_succ,List.getElem?_cons_zero] at ly0 ly1 ly2 ly3;have lm0 := BlkAt.cell (S7.out.get 1 rfl).1 0;have lm1 := BlkAt.cell (S7.out.get 1 rfl).1 1;have lm2 := BlkAt.cell (S7.out.get 1 rfl).1 2;have lm3 := BlkAt.cell (S7.out.get 1 rfl).1 3;simp only [List.getElem?_cons_succ,List.getElem?_cons_zero] at lm0 lm1 lm2 lm3;go_wp2_with fail
     refine (eq8_t m y p ⟨Y1,y1,Y2,y2,Y3,y3⟩ _ (eBox.at (S7.out.get 1 rfl) HLm.out) (eBox.at (S7.out.get 0 rfl) HLy.out) (MinB.uniq HRA.out HMm.out HMy.out)).mono ?_;rintro e v8 ⟨rfl,hb⟩;have S8 := Lib.hid (S7.out.next hb);clear hb S7;go_wp2_with fail
     go_ret
     exact ⟨rfl,S8.out.below⟩
end Go.Proofs.Ytjjifefanjnghaa
