/-
  What the row leans on.
-/
import Derived.Test.YtjjifefanjnghaaJbx08
import Derived.Test.YtjjifefanjnghaaJbx09
set_option linter.unusedSimpArgs false
set_option linter.unusedVariables false
namespace Go.Proofs.Ytjjifefanjnghaa
open Go.RowKit
set_option maxRecDepth 100000
def eLs (a : Au) (p : AuP) : Ent := (eInts a.al (.slice p.A1 a.al.length p.c1)).and ((eInts a.mr (.slice p.A2 a.mr.length p.c2)).and (eEds a.ed (.slice p.A3 a.ed.length p.c3)))
theorem Sep.ls {n : Nat} {w0 w : World} {a : Au} {p : AuP} (S : Sep n w0 (eAu a p) w) : Sep n w0 [eLs a p] w := by
 refine ⟨S.fro,fun x hx => ?_,fun x hx => ?_,by simp⟩
 · simp only [List.mem_singleton] at hx; subst hx;exact ⟨S.get 0 rfl,S.get 1 rfl,S.get 2 rfl⟩
 · simp only [List.mem_singleton] at hx; subst hx;intro g hg;rcases List.mem_append.1 hg with h | h
   · exact S.ge _ (List.mem_of_getElem? (i := 0) (l := eAu a p) rfl) g h
   rcases List.mem_append.1 h with h | h
   · exact S.ge _ (List.mem_of_getElem? (i := 1) (l := eAu a p) rfl) g h
   · exact S.ge _ (List.mem_of_getElem? (i := 2) (l := eAu a p) rfl) g h
theorem eLs.at {a : Au} {p : AuP} {w : World} (h : (eLs a p).ok w) (hl : Lens a) : Au.At w a p :=
 ⟨OwnI.ints h.1,OwnI.ints h.2.1,Own.reads (enc := Ed.cells) (k := 3) (T := 70) (B := 0) (fun _ => rfl) h.2.2,hl.1,hl.2.1,hl.2.2⟩
theorem eLs.caps {a : Au} {p : AuP} {w : World} (h : (eLs a p).ok w) : Caps a p := ⟨Own.cap h.1,Own.cap h.2.1,Own.cap h.2.2⟩
theorem eLs.none_ {n : Nat} {w0 w : World} {a : Au} {p : AuP} {es : List Ent} (i : Nat) (S : Sep n w0 es w) (hi : es[i]? = some (eLs a p)) : Sep n w0 (es.set i (eLs ⟨[],0,[],[]⟩ ⟨none,0,none,0,none,0⟩)) w :=
 S.as i hi _ (fun h => ⟨Own.nil w,Own.nil w,Own.nil w⟩) (fun g hg => by
  rcases List.mem_append.1 hg with h | h
  · simp [eOwn,Value.ownBlock] at h
  · rcases List.mem_append.1 h with h | h <;> simp [eOwn,Value.ownBlock] at h)
structure Good4 (a : Au) : Prop where
 rt : a.Right
 ln : Lens a
 n : a.n.toNat ≤ 6
 ev : ∀ x,x ∈ a.ed → 0 ≤ x.ev ∧ x.ev ≤ 3
 ed : a.ed.length ≤ 100000
theorem Good4.none_ : Good4 ⟨[],0,[],[]⟩ :=
 ⟨⟨fun i x hi hx => by simp at hx,Int.le_refl _,by simp,fun i x hi hx => by simp at hx,fun i hi => by simp at hi⟩,⟨by simp,by simp,by simp⟩,by simp,by simp,by simp⟩
structure Good5 (a : Au) : Prop where
 rt : a.Right
 ln : Lens a
 n : a.n.toNat ≤ 6
theorem Good4.g5 {a : Au} (h : Good4 a) : Good5 a := ⟨h.rt,h.ln,h.n⟩
theorem Good5.need {a b : Au} (h : Good5 a) (g : Good5 b) : (a.n.toNat + 2) * (b.n.toNat + 2) ≤ 1000000 :=
 Nat.le_trans (Nat.mul_le_mul (show a.n.toNat + 2 ≤ 8 by have := h.n; omega) (show b.n.toNat + 2 ≤ 8 by have := g.n; omega)) (by decide)
theorem LeastW.nil {P : List Int → Prop} {l : List Int} (h : LeastW P l) (h0 : P []) : l = [] := by
 rcases h.le [] h0 with (h | h) | h
 · simp at h
 · exact List.eq_nil_of_length_eq_zero (by simpa using h.1)
 · exact h
theorem bool_iff {a b : Bool} {P : Prop} (h : a = true ↔ P) (k : b = true ↔ P) : a = b := by
 cases a <;> cases b <;> first | rfl | exact absurd (h.2 (k.1 rfl)) (by decide) | exact absurd (k.2 (h.1 rfl)) (by decide)
theorem same8_n (A1 A2 : Option Addr) (c1 c2 : Nat) (l1 l2 : List Int) (m1 : Nat) (w : World) (hm : m1 = l1.length) (h1 : IntsAt w A1 l1) (h2 : IntsAt w A2 l2) (n1 : l1.length ≤ 140737488355328) (n2 : l2.length ≤ 140737488355328) :
 Calls Try.prog 23 #[.slice A1 m1 c1,.slice A2 l2.length c2] w (Tells (l1 = l2) w) := by
 subst hm;exact same8_c A1 A2 c1 c2 l1 l2 w h1 h2 n1 n2
theorem kx_right {a : Au} (ha : a.Right) {w w' : World} {e : Ending} (h : GivesKX a w e w') : ∃ g c m,e = .returned (.tuple #[.slice (some ⟨g,0,none⟩) a.n.toNat a.n.toNat,.int .i64 0]) ∧ (SepW w [eBlk g 3 (c.map (Value.int .i64))] w') ∧ Hid (c.length = a.n.toNat ∧ Clz a c m) := by
 obtain ⟨r,hr,⟨h1,_⟩ | ⟨_,g,c,m,h2,h3,h4⟩⟩ := h
 · exact absurd (hr.uniq (ChkErr.of_right ha)) h1
 · exact ⟨g,c,m,h2,h3,h4.out.1,⟨h4.out.2.1,h4.out.2.2⟩⟩
theorem im_right {a : Au} (ha : a.Right) {w w' : World} {e : Ending} (h : GivesIM a w e w') : ∃ (f : Bool) (m : Au),e = .returned (.tuple #[.bool f,.int .i64 0]) ∧ Below w.heap.size w w' ∧ Hid (MinB a m ∧ (f = true ↔ a = m)) := by
 obtain ⟨r,f,hr,he,hb,⟨h1,_⟩ | ⟨h0,m,h2,h3⟩⟩ := h
 · exact absurd (hr.uniq (ChkErr.of_right ha)) h1
 · subst h0;exact ⟨f,m,he,hb,h2,h3⟩
theorem Clz.uniq {a : Au} {c d : List Int} {m k : Nat} (h : Clz a c m) (g : Clz a d k) (hl : c.length = d.length) : c = d := canon_uniq h.can g.can hl h.eq g.eq
theorem MinB.of_clz {a m : Au} {c : List Int} {k : Nat} (hl : c.length = a.n.toNat) (h : Clz a c k) (g : Mrg a c m) : MinB a m := ⟨c,k,hl,h.can,h.eq,g⟩
theorem MinB.uniq {a m k : Au} (ha : a.Right) (h : MinB a m) (g : MinB a k) : m = k := MinG.uniq (h.mini ha).g (g.mini ha).g (by rw [(h.mini ha).al,(g.mini ha).al])
set_option maxHeartbeats 16000000 in
theorem lawClasses_c (d : Sm4) (w : World) (hd : d.Ok) :
 Calls Try.prog 9 #[.agg d.cells.toArray] w (Ret (.bool true) w) := by
 have HD := Lib.hid hd;have HRA := Lib.hid (Sm4.right hd);have HLA := Lib.hid (Sm4.lens hd);have HNE := Lib.hid (Sm4.need hd);obtain ⟨hn1,hn6⟩ := Sm4.n_rg hd;have HP1 : Hid (0 < d.au.n) := by show 0 < (d.n : Int); omega
 have HP6 : Hid (d.au.n.toNat ≤ 6) := by show (d.n : Int).toNat ≤ 6; omega
 clear hd hn1 hn6;go_enter Try.func9,Try.ntmps9
 generalize hcs : d.cells = cs;go_upto_region 1 with fail
 refine wp_world (fun W => Sep w.heap.size w [eBlk w.heap.size 46 cs] W) ?_ fun W S => ?_
 · exact (Sep.here w).alloc' _ cs rfl rfl
 rw [← hcs] at S;have SA := Lib.hid S;clear S hcs;go_wp2_with fail
 refine (knownM_c W).mono ?_;rintro e w1 ⟨rfl,hb⟩;have SB := Lib.hid (SA.out.next hb);clear hb SA;go_wp2_with (refine wpList_load_mid rfl 46 (.tmp 1) rfl w.heap.size 0 rfl d.cells _ (BlkAt.rng (SB.out.get 0 rfl) (fun j v hv => by rw [Nat.zero_add]; exact hv)) Try.underlying46 rfl (Sm4.info HD.out) ?_)
 refine (make4_c d w1 HD.out).mono ?_;rintro e v2 ⟨⟨A1,a1,A2,a2,A3,a3⟩,rfl,TT⟩;have T2 := ckN SB.out TT.out;clear TT SB;dsimp only [Au.val];obtain ⟨ta,ht⟩ : ∃ g,g = v2.heap.size := ⟨_,rfl⟩;go_upto_region 4 with fail
 rw [← ht];refine wp_world (fun V => Sep w.heap.size w [eBlk ta 25 [.slice A1 d.au.al.length a1,.int .i64 d.au.n,.slice A2 d.au.mr.length a2,.slice A3 d.au.ed.length a3],eInts d.au.al (.slice A1 d.au.al.length a1),eInts d.au.mr (.slice A2 d.au.mr.length a2),eEds d.au.ed (.slice A3 d.au.ed.length a3),eBlk w.heap.size 46 d.cells] V) (T2.out.alloc' _ [_,_,_,_] rfl ht) fun W2 S' => ?_;have S2 : (SepW w [eBox ta d.au ⟨A1,a1,A2,a2,A3,a3⟩,eBlk w.heap.size 46 d.cells] W2) := S'.box;clear S' T2 ht;have S0 : (SepW w [eBox ta d.au ⟨A1,a1,A2,a2,A3,a3⟩] W2) := S2.out.pick [0] (by decide);clear S2;have la0 := BlkAt.cell (S0.out.get 0 rfl).1 0;have la1 := BlkAt.cell (S0.out.get 0 rfl).1 1;have la2 := BlkAt.cell (S0.out.get 0 rfl).1 2;have la3 := BlkAt.cell (S0.out.get 0 rfl).1 3;simp only [List.getElem?_cons_succ,List.getElem?_cons_zero] at la0 la1 la2 la3;go_wp2_with fail
 refine (classesX_c d.au ⟨A1,a1,A2,a2,A3,a3⟩ _ (fun _ => eBox.caps (S0.out.get 0 rfl)) (eBox.at (S0.out.get 0 rfl) HLA.out)).mono ?_;intro e v3 hk;obtain ⟨gk,c,m,rfl,TT,HCZ⟩ := kx_right HRA.out hk;have S3 := ckN S0.out TT.out;clear hk TT S0 la0 la1 la2 la3;have la0 := BlkAt.cell (S3.out.get 1 rfl).1 0;have la1 := BlkAt.cell (S3.out.get 1 rfl).1 1;have la2 := BlkAt.cell (S3.out.get 1 rfl).1 2;have la3 := BlkAt.cell (S3.out.get 1 rfl).1 3;simp only [List.getElem?_cons_succ,List.getElem?_cons_zero] at la0 la1 la2 la3;go_wp2_with fail
 refine (minimizeB_c d.au ⟨A1,a1,A2,a2,A3,a3⟩ v3 HRA.out (eBox.caps (S3.out.get 1 rfl)) (eBox.at (S3.out.get 1 rfl) HLA.out)).mono ?_;rintro e v4 ⟨x,⟨X1,x1,X2,x2,X3,x3⟩,rfl,TT,HLx,HMx⟩;have T4 := ckN S3.out TT.out;clear TT S3;dsimp only [Au.val];obtain ⟨tx,ht⟩ : ∃ g,g = v4.heap.size := ⟨_,rfl⟩;go_upto_region 6 with fail
 rw [← ht];refine wp_world (fun V => Sep w.heap.size w [eBlk tx 25 [.slice X1 x.al.length x1,.int .i64 x.n,.slice X2 x.mr.length x2,.slice X3 x.ed.length x3],eInts x.al (.slice X1 x.al.length x1),eInts x.mr (.slice X2 x.mr.length x2),eEds x.ed (.slice X3 x.ed.length x3),eBlk gk 3 (c.map (Value.int .i64)),eBox ta d.au ⟨A1,a1,A2,a2,A3,a3⟩] V) (T4.out.alloc' _ [_,_,_,_] rfl ht) fun W4 S' => ?_;have S4 : (SepW w [eBox tx x ⟨X1,x1,X2,x2,X3,x3⟩,eBlk gk 3 (c.map (Value.int .i64)),eBox ta d.au ⟨A1,a1,A2,a2,A3,a3⟩] W4) := S'.box;clear S' T4 ht;clear la0 la1 la2 la3;have la0 := BlkAt.cell (S4.out.get 2 rfl).1 0;have la1 := BlkAt.cell (S4.out.get 2 rfl).1 1;have la2 := BlkAt.cell (S4.out.get 2 rfl).1 2;have la3 := BlkAt.cell (S4.out.get 2 rfl).1 3;simp only [List.getElem?_cons_succ,List.getElem?_cons_zero] at la0 la1 la2 la3;go_wp2_with fail
 refine (isMinX_c d.au ⟨A1,a1,A2,a2,A3,a3⟩ _ (fun _ => eBox.caps (S4.out.get 2 rfl)) (eBox.at (S4.out.get 2 rfl) HLA.out)).mono ?_;intro e v5 hk;obtain ⟨f,m3,rfl,hb,HIM⟩ := im_right HRA.out hk;have S5 := Lib.hid (S4.out.next hb);clear hk hb S4 la0 la1 la2 la3;have la0 := BlkAt.cell (S5.out.get 2 rfl).1 0;have la1 := BlkAt.cell (S5.out.get 2 rfl).1 1;have la2 := BlkAt.cell (S5.out.get 2 rfl).1 2;have la3 := BlkAt.cell (S5.out.get 2 rfl).1 3;simp only [List.getElem?_cons_succ,List.getElem?_cons_zero] at la0 la1 la2 la3;go_wp2_with fail
 refine (clsR_c d.au ⟨A1,a1,A2,a2,A3,a3⟩ v5 HRA.out (eBox.at (S5.out.get 2 rfl) HLA.out) HNE.out).mono ?_;rintro e v6 ⟨AR,kR,c2,k2',rfl,HC2,TT⟩;have S6 := ckN S5.out TT.out;clear TT S5 la0 la1 la2 la3;have HCC : Hid (c = c2) := HCZ.out.2.uniq HC2.out.2 (by rw [HCZ.out.1,HC2.out.1]);have la0 := BlkAt.cell (S6.out.get 3 rfl).1 0;have la1 := BlkAt.cell (S6.out.get 3 rfl).1 1;have la2 := BlkAt.cell (S6.out.get 3 rfl).1 2;have la3 := BlkAt.cell (S6.out.get 3 rfl).1 3;simp only [List.getElem?_cons_succ,List.getElem?_cons_zero] at la0 la1 la2 la3;go_wp2_with fail
 refine (rmerge_c d.au ⟨A1,a1,A2,a2,A3,a3⟩ AR kR c2 v6 HRA.out HP1.out (eBox.at (S6.out.get 3 rfl) HLA.out) (S6.out.ints 0 rfl) HC2.out.1).mono ?_;rintro e v7 ⟨m2,M2,M3,k2,k3,rfl,TT,HLm,HMR⟩;have T7 := ckN S6.out TT.out;clear TT S6 la0 la1 la2 la3;have HMB : Hid (MinB d.au m2) := MinB.of_clz HC2.out.1 HC2.out.2 HMR.out.2;have HX2 : Hid (x = m2) := MinB.uniq HRA.out HMx.out HMB.out;have HX3 : Hid (f = true ↔ d.au = m2) := by rw [← MinB.uniq HRA.out HIM.out.1 HMB.out]; exact HIM.out.2
 dsimp only [Au.val];obtain ⟨tm,ht⟩ : ∃ g,g = v7.heap.size := ⟨_,rfl⟩;go_upto_region 9 with fail
 rw [← ht];refine wp_world (fun V => Sep w.heap.size w [eBlk tm 25 [.slice A1 m2.al.length a1,.int .i64 m2.n,.slice M2 m2.mr.length k2,.slice M3 m2.ed.length k3],eInts m2.mr (.slice M2 m2.mr.length k2),eEds m2.ed (.slice M3 m2.ed.length k3),eInts c2 (.slice AR c2.length kR),eBox tx x ⟨X1,x1,X2,x2,X3,x3⟩,eBlk gk 3 (c.map (Value.int .i64)),eBox ta d.au ⟨A1,a1,A2,a2,A3,a3⟩] V) (T7.out.alloc' _ [_,_,_,_] rfl ht) fun W8 S' => ?_;have S8 := Lib.hid S';clear S' T7 ht;have HAM : Hid (∀ V,Sep w.heap.size w [eBlk tm 25 [.slice A1 m2.al.length a1,.int .i64 m2.n,.slice M2 m2.mr.length k2,.slice M3 m2.ed.length k3],eInts m2.mr (.slice M2 m2.mr.length k2),eEds m2.ed (.slice M3 m2.ed.length k3),eInts c2 (.slice AR c2.length kR),eBox tx x ⟨X1,x1,X2,x2,X3,x3⟩,eBlk gk 3 (c.map (Value.int .i64)),eBox ta d.au ⟨A1,a1,A2,a2,A3,a3⟩] V → Au.At V m2 ⟨A1,a1,M2,k2,M3,k3⟩) := fun V S => ⟨by rw [HMR.out.1]; exact (eBox.at (S.get 6 rfl) HLA.out).al,S.ints 1 rfl,Own.reads (enc := Ed.cells) (k := 3) (T := 70) (B := 0) (fun _ => rfl) (S.get 2 rfl),HLm.out.1,HLm.out.2.1,HLm.out.2.2⟩;have mm0 := BlkAt.cell (S8.out.get 0 rfl) 0; have mm1 := BlkAt.cell (S8.out.get 0 rfl) 1; have mm2 := BlkAt.cell (S8.out.get 0 rfl) 2; have mm3 := BlkAt.cell (S8.out.get 0 rfl) 3; simp only [List.getElem?_cons_succ,List.getElem?_cons_zero] at mm0 mm1 mm2 mm3;have lx0 := BlkAt.cell (S8.out.get 4 rfl).1 0;have lx1 := BlkAt.cell (S8.out.get 4 rfl).1 1;have lx2 := BlkAt.cell (S8.out.get 4 rfl).1 2
 have lx3 := BlkAt.cell (S8.out.get 4 rfl).1 3;simp only [List.getElem?_cons_succ,List.getElem?_cons_zero] at lx0 lx1 lx2 lx3;have la0 := BlkAt.cell (S8.out.get 6 rfl).1 0;have la1 := BlkAt.cell (S8.out.get 6 rfl).1 1;have la2 := BlkAt.cell (S8.out.get 6 rfl).1 2;have la3 := BlkAt.cell (S8.out.get 6 rfl).1 3;simp only [List.getElem?_cons_succ,List.getElem?_cons_zero] at la0 la1 la2 la3;have hcl : d.au.n.toNat = c.length := HCZ.out.1.symm;have HCLN := Lib.hid hcl;clear hcl;go_wp2_with fail
 refine (same8_n (some ⟨gk,0,none⟩) AR d.au.n.toNat kR c c2 d.au.n.toNat W8 HCLN.out (IntsAt.blk c (S8.out.get 5 rfl)) (S8.out.ints 3 rfl) (by have := HCLN.out; have := HP6.out; omega) (by have := HC2.out.1; have := HP6.out; omega)).mono ?_;intro e v9 hs;obtain ⟨rfl,hb⟩ := hs.yes2 HCC.out;have S9 := Lib.hid (S8.out.next hb);clear hb S8 mm0 mm1 mm2 mm3 lx0 lx1 lx2 lx3 la0 la1 la2 la3;have mm0 := BlkAt.cell (S9.out.get 0 rfl) 0; have mm1 := BlkAt.cell (S9.out.get 0 rfl) 1; have mm2 := BlkAt.cell (S9.out.get 0 rfl) 2; have mm3 := BlkAt.cell (S9.out.get 0 rfl) 3; simp only [List.getElem?_cons_succ,List.getElem?_cons_zero] at mm0 mm1 mm2 mm3;have lx0 := BlkAt.cell (S9.out.get 4 rfl).1 0;have lx1 := BlkAt.cell (S9.out.get 4 rfl).1 1;have lx2 := BlkAt.cell (S9.out.get 4 rfl).1 2;have lx3 := BlkAt.cell (S9.out.get 4 rfl).1 3;simp only [List.getElem?_cons_succ,List.getElem?_cons_zero] at lx0 lx1 lx2 lx3;have la0 := BlkAt.cell (S9.out.get 6 rfl).1 0;have la1 := BlkAt.cell (S9.out.get 6 rfl).1 1;have la2 := BlkAt.cell (S9.out.get 6 rfl).1 2;have la3 := BlkAt.cell (S9.out.get 6 rfl).1 3;simp only [List.getElem?_cons_succ,List.getElem?_cons_zero] at la0 la1 la2 la3;go_wp2_with fail
 refine (eq8_c x m2 ⟨X1,x1,X2,x2,X3,x3⟩ ⟨A1,a1,M2,k2,M3,k3⟩ v9 (eBox.at (S9.out.get 4 rfl) HLx.out) (HAM.out v9 S9.out)).mono ?_;intro e v10 hs;obtain ⟨rfl,hb⟩ := hs.yes2 HX2.out;have S10 := Lib.hid (S9.out.next hb);clear hb S9 mm0 mm1 mm2 mm3 lx0 lx1 lx2 lx3 la0 la1 la2 la3;have mm0 := BlkAt.cell (S10.out.get 0 rfl) 0; have mm1 := BlkAt.cell (S10.out.get 0 rfl) 1; have mm2 := BlkAt.cell (S10.out.get 0 rfl) 2; have mm3 := BlkAt.cell (S10.out.get 0 rfl) 3; simp only [List.getElem?_cons_succ,List.getElem?_cons_zero] at mm0 mm1 mm2 mm3;have lx0 := BlkAt.cell (S10.out.get 4 rfl).1 0;have lx1 := BlkAt.cell (S10.out.get 4 rfl).1 1;have lx2 := BlkAt.cell (S10.out.get 4 rfl).1 2;have lx3 := BlkAt.cell (S10.out.get 4 rfl).1 3;simp only [List.getElem?_cons_succ,List.getElem?_cons_zero] at lx0 lx1 lx2 lx3;have la0 := BlkAt.cell (S10.out.get 6 rfl).1 0;have la1 := BlkAt.cell (S10.out.get 6 rfl).1 1;have la2 := BlkAt.cell (S10.out.get 6 rfl).1 2;have la3 := BlkAt.cell (S10.out.get 6 rfl).1 3;simp only [List.getElem?_cons_succ,List.getElem?_cons_zero] at la0 la1 la2 la3;go_wp2_with fail
 refine (eq8_c d.au m2 ⟨A1,a1,A2,a2,A3,a3⟩ ⟨A1,a1,M2,k2,M3,k3⟩ v10 (eBox.at (S10.out.get 6 rfl) HLA.out) (HAM.out v10 S10.out)).mono ?_;rintro e v11 ⟨r2,rfl,hr2,hb⟩;obtain rfl : r2 = f := bool_iff hr2 HX3.out;have S11 := Lib.hid (S10.out.next hb);clear hb S10 hr2 HX3 HIM;have hff : (r2 == r2) = true := by cases r2 <;> rfl
 go_wp2_with fail
 go_ret
 exact ⟨rfl,S11.out.below⟩
end Go.Proofs.Ytjjifefanjnghaa
