/-
  What the row leans on.
-/
import Derived.Test.YtjjifefanjnghaaJox08
import Derived.Test.YtjjifefanjnghaaJox06
set_option linter.unusedSimpArgs false
set_option linter.unusedVariables false
namespace Go.Proofs.Ytjjifefanjnghaa
open Go.RowKit
set_option maxRecDepth 100000
section
attribute [local go_sem] Oper.semAt_some

def cellLen (w : World) (g : Nat) : Nat := match w.cell? ⟨g,0,none⟩ with
 | some v => lenOf v
 | none => 0
theorem cellLen_of {w : World} {g T : Nat} {v : Value} (h : BlkAt w g T [v]) : cellLen w g = lenOf v := by
 have := BlkAt.cell h 0;simp only [List.getElem?_cons_zero] at this;simp only [cellLen,this]
theorem unseen_cnt (N : Nat) (see : Int → Bool) : unseen N see = N - cntT (fun t => see (t : Int)) N := by
 unfold unseen cntT
 have h := List.length_eq_countP_add_countP (p := fun t : Nat => see (t : Int)) (l := List.range N);simp only [List.length_range,← List.countP_eq_length_filter] at h ⊢;simp only [Bool.not_eq_true,Bool.decide_eq_false] at h;omega
def GivesFw (a : Au) (pm : Ed → Bool) (F : List Int) (w : World) (e : Ending) (w' : World) : Prop := ∃ (g : Nat) (see : Int → Bool),e = .returned (.slice (some ⟨g,0,none⟩) a.n.toNat a.n.toNat) ∧ (SepW w [eBlk g 4 (mkB a.n.toNat fun t => see (t : Int))] w') ∧ Hid (∀ t,see t = true ↔ Fwd a pm F t)
set_option maxHeartbeats 8000000 in
theorem forward_c (a : Au) (p : AuP) (g0 : Nat) (AF : Option Addr) (cF : Nat) (F : List Int) (gp : Nat) (lbp : Array Value) (ep : ∀ args w,(callFunc gp args).run Try.prog w = .ok (.enter gp args) w) (pm : Ed → Bool) (W0 w : World)
 (hr : a.Right) (hA : EdsAt W0 p.A3 a.ed) (hc : a.ed.length ≤ p.c3) (hF : ∀ x,x ∈ F → 0 ≤ x ∧ x < a.n) (hFA : IntsAt w AF F) (hFl : F.length ≤ 4096) (hg : Sep W0.heap.size W0 [eBlk g0 3 (mkI (a.n.toNat + 1) fun j => (fstV a.ed j : Int))] w)
 (hp : ∀ V x,Below w.heap.size w V → x ∈ a.ed → Calls Try.prog gp (#[.agg x.cells.toArray] ++ lbp) V (Ret (.bool (pm x)) V)) :
 Calls Try.prog 73 #[.agg (grCells a p g0).toArray,.slice AF F.length cF,.func (.func gp) #[] lbp] w (GivesFw a pm F w) := by
 have h0 := hr.n0;have hn := hr.n1;have HR := Lib.hid hr;have HA := Lib.hid hA;have HCP := Lib.hid hc;have HG := Lib.hid hg;have HP := Lib.hid hp;have HF := Lib.hid hF;have HFA := Lib.hid hFA;obtain ⟨al,n,mr,ed⟩ := a;obtain ⟨A1,c1,A2,c2,A3,c3⟩ := p;obtain ⟨N,rfl⟩ := Int.eq_ofNat_of_zero_le h0;dsimp only [grCells] at HR HA HCP HG HP HF hn h0 ⊢;rw [Int.toNat_natCast] at HG ⊢;have SK : Hid (Sep W0.heap.size W0 [eBlk g0 3 (mkI (N + 1) fun j => (fstV ed j : Int)),eKeep w W0.heap.size g0] w) := HG.out.keep;clear hr hA hc hg hp h0 hF hFA;refine calls_marks Try.func73 rfl ?_;simp only [Try.ntmps73,List.size_toArray,List.length_cons,List.length_nil,Nat.reduceAdd,Nat.reduceSub,Array.replicate_succ,Array.replicate_zero,List.push_toArray,List.append_toArray,List.nil_append,List.cons_append];obtain ⟨gg,hgg⟩ : ∃ g,g = w.heap.size := ⟨_,rfl⟩;obtain ⟨pb,hpb⟩ : ∃ g,g = w.heap.size + 1 := ⟨_,rfl⟩;go_upto_region 1 with fail
 rw [← hpb,← hgg];refine wp_world (fun W => Sep W0.heap.size W0 [eBlk pb 111 [.func (.func gp) #[] lbp],eBlk gg 85 [.slice A1 al.length c1,.int .i64 ↑N,.slice A2 mr.length c2,.slice A3 ed.length c3,.slice (some ⟨g0,0,none⟩) (N + 1) (N + 1)],eBlk g0 3 (mkI (N + 1) fun j => (fstV ed j : Int)),eKeep w W0.heap.size g0] W) ((SK.out.alloc' 85 [.slice A1 al.length c1,.int .i64 ↑N,.slice A2 mr.length c2,.slice A3 ed.length c3,.slice (some ⟨g0,0,none⟩) (N + 1) (N + 1)] rfl hgg).alloc' 111 [.func (.func gp) #[] lbp] rfl (by rw [hpb]; simp)) fun W1 S' => ?_;have S1 := Lib.hid S';clear S' SK hgg hpb;have K1 := Lib.hid (HG.out.kept S1.out (i := 2) (j := 3) rfl rfl);have b0 := ckC S1.out 1 rfl 0 rfl;have b1 := ckC S1.out 1 rfl 1 rfl;have b2 := ckC S1.out 1 rfl 2 rfl;have b3 := ckC S1.out 1 rfl 3 rfl;go_wp2_with fail
 refine (flags_c ⟨al,↑N,mr,ed⟩ ⟨A1,c1,A2,c2,A3,c3⟩ AF cF F W1 HF.out (Int.natCast_nonneg _) hn (HFA.out.below IntE.stays K1.out) (by omega)).mono ?_;rintro e w2 ⟨gs,rfl,TT⟩;dsimp only
 rw [Int.toNat_natCast] at TT ⊢;have HGS : Hid (w.heap.size ≤ gs) := Nat.le_trans K1.out.size (TT.out.ge _ (List.mem_cons_self) gs (by simp [eBlk]));have S2 : Hid (Sep W0.heap.size W0 ([eBlk gs 4 (mkB N (fun s => decide ((s : Int) ∈ F))),eBlk pb 111 [.func (.func gp) #[] lbp],eBlk gg 85 [.slice A1 al.length c1,.int .i64 ↑N,.slice A2 mr.length c2,.slice A3 ed.length c3,.slice (some ⟨g0,0,none⟩) (N + 1) (N + 1)],eBlk g0 3 (mkI (N + 1) fun j => (fstV ed j : Int)),eKeep w W0.heap.size g0]) w2) := S1.out.news TT.out;clear TT S1 K1 b0 b1 b2 b3;obtain ⟨sn,hsn⟩ : ∃ g,g = w2.heap.size := ⟨_,rfl⟩;go_upto_region 2 with fail
 rw [← hsn];refine wp_world (fun W => Sep W0.heap.size W0 [eBlk sn 82 [.slice (some ⟨gs,0,none⟩) N N],eBlk gs 4 (mkB N (fun s => decide ((s : Int) ∈ F))),eBlk pb 111 [.func (.func gp) #[] lbp],eBlk gg 85 [.slice A1 al.length c1,.int .i64 ↑N,.slice A2 mr.length c2,.slice A3 ed.length c3,.slice (some ⟨g0,0,none⟩) (N + 1) (N + 1)],eBlk g0 3 (mkI (N + 1) fun j => (fstV ed j : Int)),eKeep w W0.heap.size g0] W) (S2.out.alloc' 82 [.slice (some ⟨gs,0,none⟩) N N] rfl hsn) fun W3 S' => ?_;have S3 := Lib.hid S';clear S' S2 hsn;have K3 := Lib.hid (HG.out.kept S3.out (i := 4) (j := 5) rfl rfl);go_wp2_with fail
 refine (cloneO_c AF cF F W3 (HFA.out.below IntE.stays K3.out) (by omega)).mono ?_;rintro e w4 ⟨vq,rfl,O,hb⟩;have S4' := (S3.out.newI O.out hb).asQ 0 rfl;obtain ⟨AQ,cQ,hvq,hcq⟩ := S4'.formQ 0 rfl;subst hvq;have S4 : Hid (Sep W0.heap.size W0 ([eQ F (.slice AQ F.length cQ),eBlk sn 82 [.slice (some ⟨gs,0,none⟩) N N],eBlk gs 4 (mkB N (fun s => decide ((s : Int) ∈ F))),eBlk pb 111 [.func (.func gp) #[] lbp],eBlk gg 85 [.slice A1 al.length c1,.int .i64 ↑N,.slice A2 mr.length c2,.slice A3 ed.length c3,.slice (some ⟨g0,0,none⟩) (N + 1) (N + 1)],eBlk g0 3 (mkI (N + 1) fun j => (fstV ed j : Int)),eKeep w W0.heap.size g0]) w4) := S4';clear S4' S3 K3 O hb hcq;obtain ⟨qb,hqb⟩ : ∃ g,g = w4.heap.size := ⟨_,rfl⟩;go_upto_block 0 with fail
 rw [← hqb];refine wp_world (fun W => Sep W0.heap.size W0 ([eBlk qb 22 [.slice AQ F.length cQ],eQ F (.slice AQ F.length cQ),eBlk sn 82 [.slice (some ⟨gs,0,none⟩) N N],eBlk gs 4 (mkB N (fun s => decide ((s : Int) ∈ F))),eBlk gg 85 [.slice A1 al.length c1,.int .i64 ↑N,.slice A2 mr.length c2,.slice A3 ed.length c3,.slice (some ⟨g0,0,none⟩) (N + 1) (N + 1)],eBlk pb 111 [.func (.func gp) #[] lbp],eBlk g0 3 (mkI (N + 1) fun j => (fstV ed j : Int)),eKeep w W0.heap.size g0] ++ mksE []) W) ((S4.out.alloc' 22 [.slice AQ F.length cQ] rfl hqb).pick [0,1,2,3,5,4,6,7] (by decide)) fun W5 S' => ?_;have S5 := Lib.hid S';clear S' S4 hqb;have LB : Hid (∀ see q,FInv ⟨al,↑N,mr,ed⟩ pm F N see q → q.length ≤ 8192) := fun see q h => by have := h.ct; omega
 go_wp2_with fail
 obtain ⟨LI,hLI⟩ : ∃ LI : Act → World → Prop,Hid (∀ a' wr,LI a' wr ↔ (∃ (see : Int → Bool) (q : List Int) (AQ : Option Addr) (cQ : Nat) (Ds : List Nat),
  (Hid (FInv ⟨al,↑N,mr,ed⟩ pm F N see q) ∧ Hid (Sep W0.heap.size W0 ([eBlk qb 22 [.slice AQ q.length cQ],eQ q (.slice AQ q.length cQ),eBlk sn 82 [.slice (some ⟨gs,0,none⟩) N N],eBlk gs 4 (mkB N (fun t => see (t : Int))),eBlk gg 85 [.slice A1 al.length c1,.int .i64 ↑N,.slice A2 mr.length c2,.slice A3 ed.length c3,.slice (some ⟨g0,0,none⟩) (N + 1) (N + 1)],eBlk pb 111 [.func (.func gp) #[] lbp],eBlk g0 3 (mkI (N + 1) fun j => (fstV ed j : Int)),eKeep w W0.heap.size g0] ++ mksE Ds) wr)) ∧ ∃ u : Nat → Value,a' = { tmps := #[u 0,u 1,u 2,.pointer (some ⟨gg,0,none⟩),u 4,.pointer (some ⟨pb,0,none⟩),u 6,.pointer (some ⟨sn,0,none⟩),.pointer (some ⟨qb,0,none⟩),u 9,u 10,u 11,u 12,u 13,u 14,u 15,u 16,u 17,u 18,u 19,u 20,u 21,u 22,u 23,u 24,u 25,u 26,u 27,u 28,u 29,u 30,u 31,u 32,u 33,u 34,u 35,u 36,u 37,u 38,u 39,u 40,u 41,u 42,u 43,u 44,u 45,u 46,u 47,u 48,u 49],defers := mksD Ds })) := ⟨_,fun _ _ => Iff.rfl⟩
 refine wp_loop LI (fun a' wr => (N - wT wr gs N) + cellLen wr qb) ?_ ?_
 · exact (hLI.out _ _).2 ⟨fun t => decide (t ∈ F),F,AQ,cQ,[],⟨FInv.start HF.out,S5.out⟩,fr_of (fun u => #[u 0,u 1,u 2,.pointer (some ⟨gg,0,none⟩),u 4,.pointer (some ⟨pb,0,none⟩),u 6,.pointer (some ⟨sn,0,none⟩),.pointer (some ⟨qb,0,none⟩),u 9,u 10,u 11,u 12,u 13,u 14,u 15,u 16,u 17,u 18,u 19,u 20,u 21,u 22,u 23,u 24,u 25,u 26,u 27,u 28,u 29,u 30,u 31,u 32,u 33,u 34,u 35,u 36,u 37,u 38,u 39,u 40,u 41,u 42,u 43,u 44,u 45,u 46,u 47,u 48,u 49]) rfl⟩
 · clear S5;rintro a' wr hLW;obtain ⟨see,q,AQ,cQ,Ds,⟨FI,S⟩,u,rfl⟩ := (hLI.out _ _).1 hLW;clear hLW;have cq := BlkAt.cell (S.out.get 0 rfl) 0;simp only [List.getElem?_cons_zero] at cq;have HB0 : Hid ((N - wT wr gs N) + cellLen wr qb = unseen N see + q.length) := by
    rw [Hid,wT_of (S.out.get 3 rfl),cellLen_of (S.out.get 0 rfl),← unseen_cnt]; rfl
   cases q with
   | nil =>
     have snc := BlkAt.cell (S.out.get 2 rfl) 0;simp only [List.getElem?_cons_zero] at snc;go_wp2_with fail
     refine ret_marks Ds S.out fun w' S5 => ?_;have BK := HG.out.kept S5 (i := 6) (j := 7) rfl rfl;refine ⟨.slice (some ⟨gs,0,none⟩) N N,by simp [results,Try.results73,go_sem],?_⟩;exact ⟨gs,see,rfl,(Sep.here w).new1 BK _ (S5.get 3 rfl) (fun g hg => by simp [eBlk] at hg; subst hg; exact HGS.out),fun t => FI.out.end_ t⟩
   | cons x q =>
     obtain ⟨s,rfl⟩ := Int.eq_ofNat_of_zero_le (FI.out.qs x (by simp)).1;have hsN : s < N := by have := (FI.out.qs _ (List.mem_cons_self)).2.1; omega
     have MI : Hid (FMid ⟨al,↑N,mr,ed⟩ pm F N s (outOf ed s) 0 see q) := FI.out.pop _;have hql := LB.out _ _ FI.out;obtain ⟨gq,oq,y,hAe,hbq,hy,cq0⟩ := IntsAt.at (l := (s : Int) :: q) (Sep.intsQ S.out 1 rfl) (k := 0) (by simp);simp at hy
     subst hy;subst hAe;rw [Nat.add_zero] at cq0;have hcap := OwnO.cap (S.out.get 1 rfl);obtain ⟨AT2,hAT2,S1'⟩ := S.out.tailQ (enc := encI) (k := 1) (fun _ => rfl) 1 rfl;have S1 : Hid (Sep W0.heap.size W0 ([eBlk qb 22 [.slice (some ⟨gq,oq,none⟩) ((s : Int) :: q).length cQ],eQ q (.slice (some AT2) q.length (cQ - 1)),eBlk sn 82 [.slice (some ⟨gs,0,none⟩) N N],eBlk gs 4 (mkB N (fun t => see (t : Int))),eBlk gg 85 [.slice A1 al.length c1,.int .i64 ↑N,.slice A2 mr.length c2,.slice A3 ed.length c3,.slice (some ⟨g0,0,none⟩) (N + 1) (N + 1)],eBlk pb 111 [.func (.func gp) #[] lbp],eBlk g0 3 (mkI (N + 1) fun j => (fstV ed j : Int)),eKeep w W0.heap.size g0] ++ mksE Ds) wr) := S1';simp only [List.length_cons] at hql hcap S1 HB0 cq ⊢;clear FI hbq S1' S;have qf := BlkAt.free (S1.out.get 0 rfl) 0;have S2 : Hid (Sep W0.heap.size W0 ([eBlk qb 22 [.slice (some AT2) q.length (cQ - 1)],eQ q (.slice (some AT2) q.length (cQ - 1)),eBlk sn 82 [.slice (some ⟨gs,0,none⟩) N N],eBlk gs 4 (mkB N (fun t => see (t : Int))),eBlk gg 85 [.slice A1 al.length c1,.int .i64 ↑N,.slice A2 mr.length c2,.slice A3 ed.length c3,.slice (some ⟨g0,0,none⟩) (N + 1) (N + 1)],eBlk pb 111 [.func (.func gp) #[] lbp],eBlk g0 3 (mkI (N + 1) fun j => (fstV ed j : Int)),eKeep w W0.heap.size g0] ++ mksE Ds) (wr.setCell ⟨qb,0,none⟩ (.slice (some AT2) q.length (cQ - 1)))) := S1.out.set 0 rfl 0 (.slice (some AT2) q.length (cQ - 1));go_upto_region 5 with fail
     go_cut [9] from 23 to 24 (fun v wx => v = .int .i64 ↑s ∧ wx = wr.setCell ⟨qb,0,none⟩ (.slice (some AT2) q.length (cQ - 1)))
     case first =>
      by_cases h1c : cQ = 1
      · rw [if_pos h1c] at hAT2;cases hAT2;subst h1c;have hq0 : Hid (q.length = 0) := by show q.length = 0; omega
        go_wp2_with fail
        go_meet
        exact ⟨rfl,by rw [hq0.out]⟩
      · rw [if_neg h1c] at hAT2;cases hAT2;go_wp2_with fail
        go_meet
        exact ⟨rfl,by first | rfl | (simp; done) | (simp; omega)⟩
     case rest =>
      obtain ⟨rfl,rfl⟩ := hcut;clear cq cq0 hAT2 hcap S1 qf;go_upto_region 6 with fail
      refine wp_world (fun W => Sep W0.heap.size W0 ([eBlk qb 22 [.slice (some AT2) q.length (cQ - 1)],eQ q (.slice (some AT2) q.length (cQ - 1)),eBlk sn 82 [.slice (some ⟨gs,0,none⟩) N N],eBlk gs 4 (mkB N (fun t => see (t : Int))),eBlk gg 85 [.slice A1 al.length c1,.int .i64 ↑N,.slice A2 mr.length c2,.slice A3 ed.length c3,.slice (some ⟨g0,0,none⟩) (N + 1) (N + 1)],eBlk pb 111 [.func (.func gp) #[] lbp],eBlk g0 3 (mkI (N + 1) fun j => (fstV ed j : Int)),eKeep w W0.heap.size g0] ++ mksE Ds) W) S2.out fun W12 S' => ?_;have S12 := Lib.hid S';clear S' S2;have b0 := ckC S12.out 4 rfl 0 rfl;have b1 := ckC S12.out 4 rfl 1 rfl;have b2 := ckC S12.out 4 rfl 2 rfl;have b3 := ckC S12.out 4 rfl 3 rfl;have b4 := ckC S12.out 4 rfl 4 rfl;have ES := Lib.hid (edgesSeq_c ⟨al,↑N,mr,ed⟩ ⟨A1,c1,A2,c2,A3,c3⟩ g0 s W12);dsimp only [grCells] at ES;rw [Int.toNat_natCast] at ES;go_wp2_with fail
      refine ES.out.mono ?_;rintro e w13 ⟨gx,bs,rfl,TT⟩;have S13 : Hid (Sep W0.heap.size W0 ([eBlk bs 3 [.int .i64 ↑s],eBlk gx 85 [.slice A1 al.length c1,.int .i64 ↑N,.slice A2 mr.length c2,.slice A3 ed.length c3,.slice (some ⟨g0,0,none⟩) (N + 1) (N + 1)],eBlk qb 22 [.slice (some AT2) q.length (cQ - 1)],eQ q (.slice (some AT2) q.length (cQ - 1)),eBlk sn 82 [.slice (some ⟨gs,0,none⟩) N N],eBlk gs 4 (mkB N (fun t => see (t : Int))),eBlk gg 85 [.slice A1 al.length c1,.int .i64 ↑N,.slice A2 mr.length c2,.slice A3 ed.length c3,.slice (some ⟨g0,0,none⟩) (N + 1) (N + 1)],eBlk pb 111 [.func (.func gp) #[] lbp],eBlk g0 3 (mkI (N + 1) fun j => (fstV ed j : Int)),eKeep w W0.heap.size g0] ++ mksE Ds) w13) := S12.out.news TT.out;clear TT S12 ES b0 b1 b2 b3 b4;go_wp2_with fail
      obtain ⟨RR,hRR⟩ : ∃ RR : Nat → List Ent → Prop,Hid (∀ t es,RR t es ↔ (∃ (see' : Int → Bool) (q' : List Int) (AQ' : Option Addr) (cQ' : Nat),Hid (FMid ⟨al,↑N,mr,ed⟩ pm F N s (outOf ed s) t see' q') ∧ Hid (q'.length + unseen N see' = q.length + unseen N see) ∧ es = [eBlk bs 3 [.int .i64 ↑s],eBlk gx 85 [.slice A1 al.length c1,.int .i64 ↑N,.slice A2 mr.length c2,.slice A3 ed.length c3,.slice (some ⟨g0,0,none⟩) (N + 1) (N + 1)],eBlk qb 22 [.slice AQ' q'.length cQ'],eQ q' (.slice AQ' q'.length cQ'),eBlk sn 82 [.slice (some ⟨gs,0,none⟩) N N],eBlk gs 4 (mkB N (fun t => see' (t : Int))),eBlk gg 85 [.slice A1 al.length c1,.int .i64 ↑N,.slice A2 mr.length c2,.slice A3 ed.length c3,.slice (some ⟨g0,0,none⟩) (N + 1) (N + 1)],eBlk pb 111 [.func (.func gp) #[] lbp],eBlk g0 3 (mkI (N + 1) fun j => (fstV ed j : Int)),eKeep w W0.heap.size g0] ++ mksE Ds)) := ⟨_,fun _ _ => Iff.rfl⟩;refine wp_rangeFunc_upd1 (enc := fun x : Ed => .agg x.cells.toArray) (rfl) (fun _ _ => rfl) (T := fun _ => []) 0 (edges_iter ⟨al,↑N,mr,ed⟩ ⟨A1,c1,A2,c2,A3,c3⟩ g0 gx bs s W0.heap.size 0 W0 _ HR.out HA.out rfl hsN HCP.out) RR
       (fun _ _ => False) S13.out ((hRR.out _ _).2 ⟨see,q,some AT2,cQ - 1,MI.out,rfl,rfl⟩) (fun k es hes => ⟨trivial,?_⟩)
       (fun a x b => { tmps := (a.tmps.setIfInBounds 28 (.agg x.cells.toArray)).setIfInBounds 10 (.pointer (some ⟨b,0,none⟩)),defers := [] }) (fun x b => [eBlk b 70 x.cells]) ?_ ?_ ?_ ?_
      · obtain ⟨see',q',AQ',cQ',_,_,rfl⟩ := (hRR.out _ _).1 hes;intro e he;simp only [List.mem_cons,List.not_mem_nil,or_false] at he;rcases he with rfl | rfl | rfl
        · exact List.mem_of_getElem? (i := 0) rfl
        · exact List.mem_of_getElem? (i := 1) rfl
        · exact List.mem_of_getElem? (i := 8) rfl
      · clear S13 MI;rintro l eL eD k x es1 W KK hx hes SW hK;obtain ⟨see',q',AQ',cQ',_,_,rfl⟩ := (hRR.out _ _).1 hes;have HK2 := Lib.hid hK;have S1 := Lib.hid SW;clear hK SW;simp only [List.setIfInBounds_toArray,List.set_cons_succ,List.set_cons_zero,Ed.cells];gi_wp2
        exact HK2.out W.heap.size _ (Sep.third (S1.out.alloc 70 _))
      · clear S13 MI;rintro l eL eD t x es1 bx W hx hes SW;obtain ⟨see',q',AQ',cQ',B,CT,rfl⟩ := (hRR.out _ _).1 hes;clear hes;have hm := (mem_outOf.1 (List.mem_of_getElem? hx)).1;have hxr := edge_next HR.out hm;obtain ⟨ys,ye,d'⟩ := x;obtain ⟨d,hd⟩ := Int.eq_ofNat_of_zero_le hxr.2.2.2.1;dsimp only at hd;subst hd;have hdN : d < N := by have := hxr.2.2.2.2; dsimp only at this; omega
        have HX := Lib.hid hx;have HM := Lib.hid hm;have HOUT : Hid (∀ x,x ∈ outOf ed s → x ∈ ed ∧ x.src = s) := fun x hx => mem_outOf.1 hx;have S1 : Hid (Sep W0.heap.size W0 ([eL,eD,eBlk bx 70 [.int .i64 ys,.int .i64 ye,.int .i64 ↑d],eBlk bs 3 [.int .i64 ↑s],eBlk gx 85 [.slice A1 al.length c1,.int .i64 ↑N,.slice A2 mr.length c2,.slice A3 ed.length c3,.slice (some ⟨g0,0,none⟩) (N + 1) (N + 1)],eBlk qb 22 [.slice AQ' q'.length cQ'],eQ q' (.slice AQ' q'.length cQ'),eBlk sn 82 [.slice (some ⟨gs,0,none⟩) N N],eBlk gs 4 (mkB N (fun t => see' (t : Int))),eBlk gg 85 [.slice A1 al.length c1,.int .i64 ↑N,.slice A2 mr.length c2,.slice A3 ed.length c3,.slice (some ⟨g0,0,none⟩) (N + 1) (N + 1)],eBlk pb 111 [.func (.func gp) #[] lbp],eBlk g0 3 (mkI (N + 1) fun j => (fstV ed j : Int)),eKeep w W0.heap.size g0] ++ mksE Ds) W) := SW;clear SW hx hm hxr;have b2 := ckC S1.out 2 rfl 2 rfl;have snc := ckC S1.out 7 rfl 0 rfl;have gsc := (BlkAt.cell (S1.out.get 8 rfl) d).trans (mkB_get hdN);obtain ⟨v,hv⟩ : ∃ v,v = see' (d : Int) := ⟨_,rfl⟩;rw [← hv] at gsc;have HV := Lib.hid hv;clear hv;dsimp only [Ed.cells];simp only [List.setIfInBounds_toArray,List.set_cons_succ,List.set_cons_zero];cases v;case true =>
         have B2 := Lib.hid (B.out.skip HX.out (.inl HV.out.symm));gi_upto_region 8 with fail
         refine wpIn_region_list (by kernel_rfl) (fun _ _ h => h) ?_;go_wp2_with fail
         gi_wp2
         exact ⟨_,(hRR.out _ _).2 ⟨see',q',AQ',cQ',B2.out,CT.out,rfl⟩,S1.out.drop3⟩
        case false =>
         have BK := Lib.hid (HG.out.kept S1.out (i := 11) (j := 12) rfl rfl);obtain ⟨pv,hpv⟩ : ∃ z,z = pm ⟨ys,ye,(d : Int)⟩ := ⟨_,rfl⟩;have CP := Lib.hid (HP.out W ⟨ys,ye,(d : Int)⟩ BK.out HM.out);rw [← hpv] at CP;have HPV := Lib.hid hpv;have b0 := ckC S1.out 2 rfl 0 rfl;have b1 := ckC S1.out 2 rfl 1 rfl;have pbc := ckC S1.out 10 rfl 0 rfl;clear hpv;gi_wp2
         refine ⟨trivial,rfl,(CallsIn.inRound l (callsIn_wide.2 CP.out)).mono ?_⟩;rintro e w5 ⟨rfl,hb⟩;have S2 := Lib.hid (S1.out.next hb);clear hb CP S1 b0 b1 b2 snc gsc pbc;cases pv;case false =>
          have B2 := Lib.hid (B.out.skip HX.out (.inr HPV.out.symm));gi_wp2
          exact ⟨_,(hRR.out _ _).2 ⟨see',q',AQ',cQ',B2.out,CT.out,rfl⟩,S2.out.drop3⟩
         case true =>
          have B3 : Hid (FMid ⟨al,↑N,mr,ed⟩ pm F N s (outOf ed s) (t + 1) (fun t : Int => decide (t = (d : Int)) || see' t) (q' ++ [(d : Int)])) := B.out.push HOUT.out HX.out HPV.out.symm (Int.natCast_nonneg _) (by simp only; omega) HV.out.symm;have CT3 : Hid ((q' ++ [(d : Int)]).length + unseen N (fun t : Int => decide (t = (d : Int)) || see' t) = q.length + unseen N see) := by
           have h1 := unseen_set (N := N) (see := see') (d := (d : Int)) (Int.natCast_nonneg d) (by omega) HV.out.symm;have h2 := CT.out;rw [Hid,List.length_append,List.length_singleton];omega
          have hln : q'.length ≤ 8192 := by have := B.out.ct; omega
          have HLN := Lib.hid hln;clear hln;have b2 := ckC S2.out 2 rfl 2 rfl;have snc := ckC S2.out 7 rfl 0 rfl;have gsc := (BlkAt.cell (S2.out.get 8 rfl) d).trans (mkB_get hdN);have gsf := BlkAt.free (S2.out.get 8 rfl) d;have S3 : Hid (Sep W0.heap.size W0 ([eL,eD,eBlk bx 70 [.int .i64 ys,.int .i64 ye,.int .i64 ↑d],eBlk bs 3 [.int .i64 ↑s],eBlk gx 85 [.slice A1 al.length c1,.int .i64 ↑N,.slice A2 mr.length c2,.slice A3 ed.length c3,.slice (some ⟨g0,0,none⟩) (N + 1) (N + 1)],eBlk qb 22 [.slice AQ' q'.length cQ'],eQ q' (.slice AQ' q'.length cQ'),eBlk sn 82 [.slice (some ⟨gs,0,none⟩) N N],eBlk gs 4 (mkB N (fun t : Nat => decide ((t : Int) = (d : Int)) || see' (t : Int))),eBlk gg 85 [.slice A1 al.length c1,.int .i64 ↑N,.slice A2 mr.length c2,.slice A3 ed.length c3,.slice (some ⟨g0,0,none⟩) (N + 1) (N + 1)],eBlk pb 111 [.func (.func gp) #[] lbp],eBlk g0 3 (mkI (N + 1) fun j => (fstV ed j : Int)),eKeep w W0.heap.size g0] ++ mksE Ds) (w5.setCell ⟨gs,d,none⟩ (.bool true))) := by
           have h := S2.out.set 8 rfl d (.bool true);have e : (mkB N fun t => decide (t = d) || see' (t : Int)) = mkB N (fun t : Nat => decide ((t : Int) = (d : Int)) || see' (t : Int)) := mkB_congr fun t _ => by
            have : ((t : Int) = (d : Int)) ↔ t = d := by omega
            simp only [this]
           rw [mkB_set,e] at h;exact h
          gi_upto_region 10 with fail
          refine wpIn_world (fun V => Sep W0.heap.size W0 ([eL,eD,eBlk bx 70 [.int .i64 ys,.int .i64 ye,.int .i64 ↑d],eBlk bs 3 [.int .i64 ↑s],eBlk gx 85 [.slice A1 al.length c1,.int .i64 ↑N,.slice A2 mr.length c2,.slice A3 ed.length c3,.slice (some ⟨g0,0,none⟩) (N + 1) (N + 1)],eBlk qb 22 [.slice AQ' q'.length cQ'],eQ q' (.slice AQ' q'.length cQ'),eBlk sn 82 [.slice (some ⟨gs,0,none⟩) N N],eBlk gs 4 (mkB N (fun t : Nat => decide ((t : Int) = (d : Int)) || see' (t : Int))),eBlk gg 85 [.slice A1 al.length c1,.int .i64 ↑N,.slice A2 mr.length c2,.slice A3 ed.length c3,.slice (some ⟨g0,0,none⟩) (N + 1) (N + 1)],eBlk pb 111 [.func (.func gp) #[] lbp],eBlk g0 3 (mkI (N + 1) fun j => (fstV ed j : Int)),eKeep w W0.heap.size g0] ++ mksE Ds) V) S3.out fun W6 S' => ?_;have S4 := Lib.hid S';clear S' S3 S2 b2 snc gsc gsf;have b2 := ckC S4.out 2 rfl 2 rfl;have qbc := ckC S4.out 5 rfl 0 rfl;have hln2 := HLN.out;refine wpIn_region_list (by kernel_rfl) (fun _ _ h => h) ?_;go_wp2_with (at_builtin; refine wpList_pushQ (enc := encI) (k := 1) (fun _ => rfl) rfl _ _ 22 rfl (S4.out.alloc 3 [.int .i64 ↑d]) 7 rfl Try.underlying22 _ 8 intInfo rfl (by decide) rfl (d : Int) _ rfl (one_cell _ _ [_] _ (by simp)) (encI_one _) (by omega) (by decide) ?_)
          intro A3' c3' w7 S5;have S6 : Hid (Sep W0.heap.size W0 ([eL,eD,eBlk bx 70 [.int .i64 ys,.int .i64 ye,.int .i64 ↑d],eBlk bs 3 [.int .i64 ↑s],eBlk gx 85 [.slice A1 al.length c1,.int .i64 ↑N,.slice A2 mr.length c2,.slice A3 ed.length c3,.slice (some ⟨g0,0,none⟩) (N + 1) (N + 1)],eBlk qb 22 [.slice AQ' q'.length cQ'],eQ (q' ++ [(d : Int)]) (.slice A3' (q'.length + 1) c3'),eBlk sn 82 [.slice (some ⟨gs,0,none⟩) N N],eBlk gs 4 (mkB N (fun t : Nat => decide ((t : Int) = (d : Int)) || see' (t : Int))),eBlk gg 85 [.slice A1 al.length c1,.int .i64 ↑N,.slice A2 mr.length c2,.slice A3 ed.length c3,.slice (some ⟨g0,0,none⟩) (N + 1) (N + 1)],eBlk pb 111 [.func (.func gp) #[] lbp],eBlk g0 3 (mkI (N + 1) fun j => (fstV ed j : Int)),eKeep w W0.heap.size g0] ++ mksE Ds) w7) := S5.drop1;clear S5 b2 qbc;have qbc := ckC S6.out 5 rfl 0 rfl;have qbf := BlkAt.free (S6.out.get 5 rfl) 0
          have S7 : Hid (Sep W0.heap.size W0 ([eL,eD,eBlk bx 70 [.int .i64 ys,.int .i64 ye,.int .i64 ↑d],eBlk bs 3 [.int .i64 ↑s],eBlk gx 85 [.slice A1 al.length c1,.int .i64 ↑N,.slice A2 mr.length c2,.slice A3 ed.length c3,.slice (some ⟨g0,0,none⟩) (N + 1) (N + 1)],eBlk qb 22 [.slice A3' (q' ++ [(d : Int)]).length c3'],eQ (q' ++ [(d : Int)]) (.slice A3' (q' ++ [(d : Int)]).length c3'),eBlk sn 82 [.slice (some ⟨gs,0,none⟩) N N],eBlk gs 4 (mkB N (fun t : Nat => decide ((t : Int) = (d : Int)) || see' (t : Int))),eBlk gg 85 [.slice A1 al.length c1,.int .i64 ↑N,.slice A2 mr.length c2,.slice A3 ed.length c3,.slice (some ⟨g0,0,none⟩) (N + 1) (N + 1)],eBlk pb 111 [.func (.func gp) #[] lbp],eBlk g0 3 (mkI (N + 1) fun j => (fstV ed j : Int)),eKeep w W0.heap.size g0] ++ mksE Ds) (w7.setCell ⟨qb,0,none⟩ (.slice A3' (q'.length + 1) c3'))) := by
           have h := S6.out.set 5 rfl 0 (.slice A3' (q'.length + 1) c3');rw [show (q' ++ [(d : Int)]).length = q'.length + 1 by simp];exact h
          go_wp2_with fail
          gi_wp2
          exact ⟨_,(hRR.out _ _).2 ⟨(fun t : Int => decide (t = (d : Int)) || see' t),q' ++ [(d : Int)],A3',c3',B3.out,CT3.out,rfl⟩,S7.out.drop3⟩
      · clear S13 MI;rintro D t es1 W hD hes SW;obtain ⟨see',q',AQ',cQ',B,CT,rfl⟩ := (hRR.out _ _).1 hes;clear hes;subst hD;have B2 : Hid (FInv ⟨al,↑N,mr,ed⟩ pm F N see' q') := B.out.fin fun x hx hs => mem_outOf.2 ⟨hx,hs⟩;have S1 : Hid (Sep W0.heap.size W0 ([eBlk qb 22 [.slice AQ' q'.length cQ'],eQ q' (.slice AQ' q'.length cQ'),eBlk sn 82 [.slice (some ⟨gs,0,none⟩) N N],eBlk gs 4 (mkB N (fun t => see' (t : Int))),eBlk gg 85 [.slice A1 al.length c1,.int .i64 ↑N,.slice A2 mr.length c2,.slice A3 ed.length c3,.slice (some ⟨g0,0,none⟩) (N + 1) (N + 1)],eBlk pb 111 [.func (.func gp) #[] lbp],eBlk g0 3 (mkI (N + 1) fun j => (fstV ed j : Int)),eKeep w W0.heap.size g0] ++ mksE (D :: Ds)) W) := (Sep.marked SW).drop1.drop1;have HM2 : Hid ((N - wT W gs N) + cellLen W qb < unseen N see + (q.length + 1)) := by
         have h1 := CT.out;rw [Hid,wT_of (S1.out.get 3 rfl),cellLen_of (S1.out.get 0 rfl),← unseen_cnt];show unseen N see' + q'.length < _
         omega
        clear SW B;change Exit.inBlock 2 _ _ { tmps := _,defers := mksD (D :: Ds) } W
        go_wp2_with fail
        refine ⟨(hLI.out _ _).2 ⟨see',q',AQ',cQ',D :: Ds,⟨B2.out,S1.out⟩,fr_of (fun u => #[u 0,u 1,u 2,.pointer (some ⟨gg,0,none⟩),u 4,.pointer (some ⟨pb,0,none⟩),u 6,.pointer (some ⟨sn,0,none⟩),.pointer (some ⟨qb,0,none⟩),u 9,u 10,u 11,u 12,u 13,u 14,u 15,u 16,u 17,u 18,u 19,u 20,u 21,u 22,u 23,u 24,u 25,u 26,u 27,u 28,u 29,u 30,u 31,u 32,u 33,u 34,u 35,u 36,u 37,u 38,u 39,u 40,u 41,u 42,u 43,u 44,u 45,u 46,u 47,u 48,u 49]) rfl⟩,?_⟩;show (N - wT W gs N) + cellLen W qb < (N - wT wr gs N) + cellLen wr qb
        rw [HB0.out];exact HM2.out
      · intro D c es1 W h;exact h.elim
set_option maxHeartbeats 1000000 in
theorem anyEdge_c (x : Ed) (w : World) : Calls Try.prog 74 (#[.agg x.cells.toArray] ++ #[]) w (Ret (.bool true) w) := by
 obtain ⟨x1,x2,x3⟩ := x;dsimp only [Ed.cells];simp only [Array.append_empty];go_enter Try.func74,Try.ntmps74
 go_wp2_with fail
 go_ret
 exact ⟨rfl,by first | exact Below.refl _ _ | exact Below.new _ _⟩
set_option maxHeartbeats 2000000 in
theorem reachable_c (a : Au) (p : AuP) (g0 : Nat) (W0 w : World)
 (hr : a.Right) (hpos : 0 < a.n) (hA : EdsAt W0 p.A3 a.ed) (hc : a.ed.length ≤ p.c3) (hg : Sep W0.heap.size W0 [eBlk g0 3 (mkI (a.n.toNat + 1) fun j => (fstV a.ed j : Int))] w) :
 Calls Try.prog 53 #[.agg (grCells a p g0).toArray] w (GivesFw a (fun _ => true) [0] w) := by
 have h0 := hr.n0;have hn := hr.n1;have HR := Lib.hid hr;have HA := Lib.hid hA;have HCP := Lib.hid hc;have HG := Lib.hid hg;obtain ⟨al,n,mr,ed⟩ := a;obtain ⟨A1,c1,A2,c2,A3,c3⟩ := p;obtain ⟨N,rfl⟩ := Int.eq_ofNat_of_zero_le h0;dsimp only [grCells] at HR HA HCP HG hn h0 hpos ⊢;rw [Int.toNat_natCast] at HG ⊢;have SK : Hid (Sep W0.heap.size W0 [eBlk g0 3 (mkI (N + 1) fun j => (fstV ed j : Int)),eKeep w W0.heap.size g0] w) := HG.out.keep;have hz : ((N : Int) == 0) = false := beq_eq_false_iff_ne.2 (by omega);clear hr hA hc hg h0;go_enter Try.func53,Try.ntmps53
 obtain ⟨gg,hgg⟩ : ∃ g,g = w.heap.size := ⟨_,rfl⟩;go_upto_region 1 with fail
 rw [← hgg];refine wp_world (fun W => Sep W0.heap.size W0 [eBlk gg 85 [.slice A1 al.length c1,.int .i64 ↑N,.slice A2 mr.length c2,.slice A3 ed.length c3,.slice (some ⟨g0,0,none⟩) (N + 1) (N + 1)],eBlk g0 3 (mkI (N + 1) fun j => (fstV ed j : Int)),eKeep w W0.heap.size g0] W) (SK.out.alloc' 85 [.slice A1 al.length c1,.int .i64 ↑N,.slice A2 mr.length c2,.slice A3 ed.length c3,.slice (some ⟨g0,0,none⟩) (N + 1) (N + 1)] rfl hgg) fun W1 S' => ?_;have S1 := Lib.hid S';clear S' SK hgg;have b0 := ckC S1.out 0 rfl 0 rfl;have b1 := ckC S1.out 0 rfl 1 rfl;have b2 := ckC S1.out 0 rfl 2 rfl;have b3 := ckC S1.out 0 rfl 3 rfl;have b4 := ckC S1.out 0 rfl 4 rfl;go_wp2_with fail
 obtain ⟨sl,hsl⟩ : ∃ g,g = W1.heap.size := ⟨_,rfl⟩;rw [← hsl];refine calls_world (fun W => Sep W0.heap.size W0 [eBlk sl 3 [.int .i64 0],eBlk gg 85 [.slice A1 al.length c1,.int .i64 ↑N,.slice A2 mr.length c2,.slice A3 ed.length c3,.slice (some ⟨g0,0,none⟩) (N + 1) (N + 1)],eBlk g0 3 (mkI (N + 1) fun j => (fstV ed j : Int)),eKeep w W0.heap.size g0] W) (S1.out.alloc' 3 [.int .i64 0] rfl hsl) fun W2 S' => ?_;have S2 := Lib.hid S';clear S' S1 hsl b0 b1 b2 b3 b4;have BK := Lib.hid (HG.out.kept S2.out (i := 2) (j := 3) rfl rfl);have FC := forward_c ⟨al,↑N,mr,ed⟩ ⟨A1,c1,A2,c2,A3,c3⟩ g0 (some ⟨sl,0,none⟩) 1 [0] 74 #[] (fun args w => by rfl) (fun _ => true) W0 W2 HR.out HA.out HCP.out (by intro x hx; simp at hx; subst hx; exact ⟨Int.le_refl _,hpos⟩) (IntsAt.blk [0] (S2.out.get 0 rfl)) (by simp) (S2.out.pick [2] (by decide)) (fun V x _ _ => anyEdge_c x V);dsimp only [grCells] at FC;rw [Int.toNat_natCast] at FC;refine FC.mono ?_;rintro e w3 ⟨g,see,rfl,TT,HS⟩;have T3 := Lib.hid (((Sep.here w).next BK.out).news TT.out);clear TT BK S2 FC;dsimp only
 rw [Int.toNat_natCast] at T3 ⊢;go_wp2_with fail
 go_ret
 exact ⟨g,see,rfl,T3.out,HS.out⟩
def GivesRc (a : Au) (w : World) (e : Ending) (w' : World) : Prop := ∃ (A : Option Addr) (c : Nat) (R : List Int),e = .returned (.tuple #[.slice A R.length c,.int .i64 0]) ∧ (SepW w [eInts R (.slice A R.length c)] w') ∧ Hid (∀ t,t ∈ R ↔ 0 ≤ t ∧ ∃ u,rn a u = t) ∧ R.length ≤ a.n.toNat
theorem mkV_mem {X : Nat → Bool} {k : Nat} {x : Int} : x ∈ mkV X k ↔ ∃ s : Nat,x = s ∧ s < k ∧ X s = true := by
 simp only [mkV,List.mem_map,List.mem_filter,List.mem_range];constructor
 · rintro ⟨s,⟨h1,h2⟩,rfl⟩;exact ⟨s,rfl,h1,h2⟩
 · rintro ⟨s,rfl,h1,h2⟩;exact ⟨s,⟨h1,h2⟩,rfl⟩
set_option maxHeartbeats 2000000 in
theorem reachableL_c (a : Au) (p : AuP) (w : World) (hr : a.Right) (hpos : 0 < a.n) (hA : Au.At w a p) (hc : Caps a p) :
 Calls Try.prog 33 #[a.val p] w (GivesRc a w) := by
 have HR := Lib.hid hr;have HA := Lib.hid hA;have HC := Lib.hid hc;have n0 := hr.n0;have hn := hr.n1;obtain ⟨al,n,mr,ed⟩ := a;obtain ⟨A1,c1,A2,c2,A3,c3⟩ := p;obtain ⟨N,rfl⟩ := Int.eq_ofNat_of_zero_le n0;dsimp only [Au.val] at hpos hn ⊢;have HRES : Hid (∀ see : Int → Bool,(∀ t,see t = true ↔ Fwd ⟨al,↑N,mr,ed⟩ (fun _ => true) [0] t) → ∀ t,t ∈ mkV (fun t => see (t : Int)) N ↔ 0 ≤ t ∧ ∃ u,rn ⟨al,↑N,mr,ed⟩ u = t) := by
  intro see hs t;rw [mkV_mem];constructor
  · rintro ⟨s,rfl,_,h⟩;exact (fwd_run HR.out hpos _).1 ((hs _).1 h)
  · intro h;obtain ⟨s,rfl⟩ := Int.eq_ofNat_of_zero_le h.1;obtain ⟨u,hu⟩ := h.2;have : (s : Int) < N := by
     rcases HR.out.rn_cases u with g | g
     · omega
     · have := g.2; simp only at this; omega
    exact ⟨s,rfl,by omega,(hs _).2 ((fwd_run HR.out hpos _).2 h)⟩
 clear hr hA hc n0;go_enter Try.func33,Try.ntmps33
 go_wp2_with fail
 refine calls_world (fun W => Sep w.heap.size w [eBlk w.heap.size 25 [.slice A1 al.length c1,.int .i64 ↑N,.slice A2 mr.length c2,.slice A3 ed.length c3]] W) ?_ fun W S => ?_
 · exact (Sep.here w).alloc' _ [_,_,_,_] rfl rfl
 refine (CheckX_c ⟨al,↑N,mr,ed⟩ ⟨A1,c1,A2,c2,A3,c3⟩ W (HA.out.below S.below)).mono ?_;rintro e w1 ⟨r,rfl,hr,hb⟩;obtain rfl : r = 0 := hr.zero.2 HR.out;have S0 : (SepW w [eBlk w.heap.size 25 [.slice A1 al.length c1,.int .i64 ↑N,.slice A2 mr.length c2,.slice A3 ed.length c3]] w1) := S.next hb;clear S hb hr;have a0 := ckC S0.out 0 rfl 0 rfl;have a1 := ckC S0.out 0 rfl 1 rfl;have a2 := ckC S0.out 0 rfl 2 rfl;have a3 := ckC S0.out 0 rfl 3 rfl;go_wp2_with fail
 refine (newGraph_c ⟨al,↑N,mr,ed⟩ ⟨A1,c1,A2,c2,A3,c3⟩ w1 HR.out (HA.out.below S0.out.below)).mono ?_;rintro e w2 ⟨g0,rfl,T⟩;have RC := Lib.hid (reachable_c ⟨al,↑N,mr,ed⟩ ⟨A1,c1,A2,c2,A3,c3⟩ g0 w1 w2 HR.out hpos (HA.out.ed.below EdE.stays S0.out.below) HC.out.c3 T.out);have S2 : (SepW w [eBlk w.heap.size 25 [.slice A1 al.length c1,.int .i64 ↑N,.slice A2 mr.length c2,.slice A3 ed.length c3]] w2) := S0.out.next T.out.below;clear T a0 a1 a2 a3 S0;go_wp2_with fail
 refine RC.out.mono ?_;rintro e w3 ⟨g,see,rfl,T,HS⟩;have S3 := Lib.hid (S2.out.news T.out);clear T S2 RC;dsimp only
 rw [Int.toNat_natCast] at S3 ⊢;go_wp2_with fail
 refine (list_c g N (fun t => see (t : Int)) w3 (S3.out.get 0 rfl) (by omega)).mono ?_;rintro e w4 ⟨v,rfl,O,hb⟩;obtain ⟨AR,cR,rfl⟩ := O.out.form;have S4 := Lib.hid (S3.out.newI O.out hb);clear S3 O hb;go_wp2_with fail
 refine bodyPost_ret (v := .tuple #[.slice AR (mkV (fun t => see (t : Int)) N).length cR,.int .i64 0]) (by simp [results,Try.results33,go_sem]) rfl ?_;exact ⟨AR,cR,_,rfl,S4.out.first,HRES.out see HS.out,mkV_len _ _⟩
end
section
theorem MinB.self {a m k : Au} (ha : a.Right) (h : MinB a m) (g : MinB m k) : m = k := by
 have M := h.mini ha;have K := g.mini M.rt;exact MinG.uniq (M.g.congr (fun w => (M.gen w).symm) (fun w => (M.mkd w).symm)) K.g K.al.symm
theorem MinB.agree {a m : Au} (ha : a.Right) (h : MinB a m) (w : List Int) : Agree a m a.st m.st w :=
 ⟨((h.mini ha).gen w).symm,((h.mini ha).mkd w).symm⟩
theorem eqv_yes {a b : Au} (ha : a.Right) (hb : b.Right) (h0 : 0 < a.n) (k0 : 0 < b.n) (hag : ∀ w,Agree a b a.st b.st w) {r : Int} {f : Bool} {l : List Int}
 (h : (r ≠ 0 ∧ l = [] ∧ f = false ∧ (ChkErr a r ∨ a.Right ∧ ChkErr b r)) ∨ (r = 0 ∧ a.Right ∧ b.Right ∧ (((a.n = 0 ∨ b.n = 0) ∧ l = [] ∧ f = decide (a.n = b.n)) ∨ (0 < a.n ∧ 0 < b.n ∧ ∃ g,f = !g ∧ DistW a b 0 0 g l)))) :
 r = 0 ∧ f = true ∧ l = [] := by
 have ea : a.st = 0 := if_neg (by omega);have eb : b.st = 0 := if_neg (by omega);rcases h with ⟨h1,_,_,h | ⟨_,h⟩⟩ | ⟨h1,_,_,⟨h2,_,_⟩ | ⟨_,_,g,h4,h5⟩⟩
 · exact absurd (h.uniq (ChkErr.of_right ha)) h1
 · exact absurd (h.uniq (ChkErr.of_right hb)) h1
 · omega
 · rw [ea,eb] at hag;rcases h5.cases ha hb (.inr (Int.le_refl _)) (.inr (Int.le_refl _)) with ⟨k1,k2⟩ | ⟨k1,k3,k2⟩
   · exact absurd (hag l) k2.is
   · exact ⟨h1,by rw [h4,k1]; rfl,k3⟩
theorem Clz.consL {a : Au} {c : List Int} {m : Nat} (ha : a.Right) (hl : c.length = a.n.toNat) (h : Clz a c m) : ConsV a c := by
 intro i j hi hj he;rw [same1_iff ha];have hE := (h.eq i j hi hj).1 he;have h0 := (hE []).2;simp only [runV] at h0;refine ⟨h0,fun e _ => ?_⟩;have hn := hE.next (Int.natCast_nonneg i) (Int.natCast_nonneg j) e;have h1 := (hn []).1;simp only [runV] at h1;refine ⟨h1,fun g => ?_⟩;have g2 := h1.1 g;have r : ∀ k : Nat,0 ≤ nextV a.ed k e → nextV a.ed k e < a.n := fun k hk => by
  rcases ha.next_cases (k : Int) e with q | ⟨_,q,_⟩
  · omega
  · exact q
 have e1 : (nextV a.ed i e).toNat < c.length := by have := r i g; omega
 have e2 : (nextV a.ed j e).toNat < c.length := by have := r j g2; omega
 have := (h.eq _ _ e1 e2).2 (by rw [Int.toNat_of_nonneg g,Int.toNat_of_nonneg g2]; exact hn);unfold clsV
 rw [getD_lt _ e1,getD_lt _ e2];rw [List.getElem?_eq_getElem e1,List.getElem?_eq_getElem e2] at this;exact Option.some.inj this
def OccV (c R : List Int) (k : Nat) (D : List Int) : Prop := D.Nodup ∧ ∀ y,y ∈ D ↔ ∃ t,t ∈ R.take k ∧ y = clsV c t
def fD (D : List Int) : Int → Option Bool := fun y => if y ∈ D then some true else none
theorem OccV.start (c R : List Int) : OccV c R 0 [] := ⟨List.nodup_nil,by simp⟩
def addD (D : List Int) (y : Int) : List Int := if y ∈ D then D else D ++ [y]
theorem OccV.next {c R : List Int} {k : Nat} {D : List Int} (h : OccV c R k D) {t : Int} (ht : R[k]? = some t) : OccV c R (k + 1) (addD D (clsV c t)) := by
 have key : ∀ y,y ∈ addD D (clsV c t) ↔ y ∈ D ∨ y = clsV c t := fun y => by
  unfold addD
  split
  · rename_i m
    constructor
    · exact .inl
    · rintro (g | rfl)
      · exact g
      · exact m
  · simp
 refine ⟨?_,fun y => ?_⟩
 · unfold addD
   split
   · exact h.1
   · rename_i m
     rw [List.nodup_append];refine ⟨h.1,by simp,?_⟩;intro a ha b hb e;simp at hb
     subst hb; subst e;exact m ha
 · rw [key,h.2,List.take_add_one,ht,Option.toList_some];constructor
   · rintro (⟨u,hu,rfl⟩ | rfl)
     · exact ⟨u,List.mem_append_left _ hu,rfl⟩
     · exact ⟨t,by simp,rfl⟩
   · rintro ⟨u,hu,rfl⟩;rcases List.mem_append.1 hu with g | g
     · exact .inl ⟨u,g,rfl⟩
     · simp at g; subst g; exact .inr rfl
theorem fD_add (D : List Int) (y : Int) : (fun u => if u = y then some true else fD D u) = fD (addD D y) := by
 funext u
 unfold fD addD
 by_cases e : u = y
 · subst e;rw [if_pos rfl];by_cases m : u ∈ D
   · rw [if_pos m,if_pos m]
   · rw [if_neg m,if_pos (by simp)]
 · rw [if_neg e];by_cases m : y ∈ D
   · rw [if_pos m]
   · rw [if_neg m];by_cases g : u ∈ D
     · rw [if_pos g,if_pos (by simp [g])]
     · rw [if_neg g,if_neg (by simp [g,e])]
def cntC (b : Bool) (c : Nat) : Nat := if b then c else c + 1
theorem fD_cnt (D : List Int) (y : Int) : cntC (fD D y).isSome D.length = (addD D y).length := by
 unfold fD addD cntC
 by_cases m : y ∈ D
 · simp [m]
 · simp [m]
section
variable {κ β : Type} [DecidableEq κ] {key : κ → Value} {ve : β → Value} {b c n : Nat} {f : κ → Option β} {w0 w : World} {es : List Ent}
theorem wpList_mapUpdateA {P : Program} {ops : Array Oper} {rest : List Oper} {o : Oper} {a : Act} {Q : Exit → Act → World → Prop}
 (hg : o.guard = none) (m x v : Operand) (M T E : TypeId) (hop : o.op = Op.mapUpdate M m x v) {D : TypeDesc} (S : Sep n w0 es w) (i : Nat) (hei : es[i]? = some (eMapC key ve b f c)) (K : KeyG P T D key) (hM : P.underlying M = some (.map T E))
 (y : κ) (z : β) (hm : a.eval m = .map (some b)) (hx : a.eval x = key y) (hv : a.eval v = ve z)
 (hK : ∀ w',Sep n w0 (es.set i (eMapC key ve b (fun u => if u = y then some z else f u) (cntC (f y).isSome c))) w' → Off [b] w w' → wpList P ops Q rest (a.put o.dst undef) w') :
 wpList P ops Q (o :: rest) a w := by
 refine wpList_plain hg fun K' hK' => ?_;obtain ⟨w',hrun,r1,r2⟩ := S.storeC i hei K hM y z;unfold Oper.wp
 simp [execOp,hop,hm,hx,hv,hrun,Result.andThen]
 exact hK' _ _ (hK w' r1 r2)
end
end
set_option maxHeartbeats 16000000 in
theorem lawLeast_c (d : Sm4) (w : World) (hd : d.Ok) :
 Calls Try.prog 10 #[.agg d.cells.toArray] w (Ret (.bool true) w) := by
 have HD := Lib.hid hd;have HRA := Lib.hid (Sm4.right hd);have HLA := Lib.hid (Sm4.lens hd);have HNE := Lib.hid (Sm4.need hd);obtain ⟨hn1,hn6⟩ := Sm4.n_rg hd;have HP1 : Hid (0 < d.au.n) := by show 0 < (d.n : Int); omega
 have HP6 : Hid (d.au.n.toNat ≤ 6) := by show (d.n : Int).toNat ≤ 6; omega
 obtain ⟨N,hN⟩ : ∃ N,N = d.n := ⟨_,rfl⟩;rw [← hN] at hn1 hn6;have HNI : Hid (d.au.n = (N : Int)) := by rw [hN]; rfl
 have HNN : Hid (d.au.n.toNat = N) := by rw [hN]; rfl
 clear hd hN;go_enter Try.func10,Try.ntmps10
 generalize hcs : d.cells = cs;go_upto_region 1 with fail
 refine wp_world (fun W => Sep w.heap.size w [eBlk w.heap.size 46 cs] W) ?_ fun W S => ?_
 · exact (Sep.here w).alloc' _ cs rfl rfl
 rw [← hcs] at S;have SA := Lib.hid S;clear S hcs;go_wp2_with fail
 refine (knownM_c W).mono ?_;rintro e w1 ⟨rfl,hb⟩;have SB := Lib.hid (SA.out.next hb);clear hb SA;go_wp2_with (refine wpList_load_mid rfl 46 (.tmp 1) rfl w.heap.size 0 rfl d.cells _ (BlkAt.rng (SB.out.get 0 rfl) (fun j v hv => by rw [Nat.zero_add]; exact hv)) Try.underlying46 rfl (Sm4.info HD.out) ?_)
 refine (make4_c d w1 HD.out).mono ?_;rintro e v2 ⟨⟨A1,a1,A2,a2,A3,a3⟩,rfl,TT⟩;have T2 := ckN SB.out TT.out;clear TT SB;dsimp only [Au.val];obtain ⟨ta,ht⟩ : ∃ g,g = v2.heap.size := ⟨_,rfl⟩;go_upto_region 4 with fail
 rw [← ht];refine wp_world (fun V => Sep w.heap.size w [eBlk ta 25 [.slice A1 d.au.al.length a1,.int .i64 d.au.n,.slice A2 d.au.mr.length a2,.slice A3 d.au.ed.length a3],eInts d.au.al (.slice A1 d.au.al.length a1),eInts d.au.mr (.slice A2 d.au.mr.length a2),eEds d.au.ed (.slice A3 d.au.ed.length a3),eBlk w.heap.size 46 d.cells] V) (T2.out.alloc' _ [_,_,_,_] rfl ht) fun W2 S' => ?_;have S2 : (SepW w [eBox ta d.au ⟨A1,a1,A2,a2,A3,a3⟩,eBlk w.heap.size 46 d.cells] W2) := S'.box;clear S' T2 ht;have S0 : (SepW w [eBox ta d.au ⟨A1,a1,A2,a2,A3,a3⟩] W2) := S2.out.pick [0] (by decide);clear S2;have la0 := BlkAt.cell (S0.out.get 0 rfl).1 0;have la1 := BlkAt.cell (S0.out.get 0 rfl).1 1;have la2 := BlkAt.cell (S0.out.get 0 rfl).1 2;have la3 := BlkAt.cell (S0.out.get 0 rfl).1 3;simp only [List.getElem?_cons_succ,List.getElem?_cons_zero] at la0 la1 la2 la3;go_wp2_with fail
 refine (minimizeB_c d.au ⟨A1,a1,A2,a2,A3,a3⟩ W2 HRA.out (eBox.caps (S0.out.get 0 rfl)) (eBox.at (S0.out.get 0 rfl) HLA.out)).mono ?_;rintro e v4 ⟨x,⟨X1,x1,X2,x2,X3,x3⟩,rfl,TT,HLx,HMx⟩;have T4 := ckN S0.out TT.out;clear TT S0;dsimp only [Au.val];obtain ⟨tx,ht⟩ : ∃ g,g = v4.heap.size := ⟨_,rfl⟩;go_upto_region 5 with fail
 rw [← ht];refine wp_world (fun V => Sep w.heap.size w [eBlk tx 25 [.slice X1 x.al.length x1,.int .i64 x.n,.slice X2 x.mr.length x2,.slice X3 x.ed.length x3],eInts x.al (.slice X1 x.al.length x1),eInts x.mr (.slice X2 x.mr.length x2),eEds x.ed (.slice X3 x.ed.length x3),eBox ta d.au ⟨A1,a1,A2,a2,A3,a3⟩] V) (T4.out.alloc' _ [_,_,_,_] rfl ht) fun W4 S' => ?_;have S4 : (SepW w [eBox tx x ⟨X1,x1,X2,x2,X3,x3⟩,eBox ta d.au ⟨A1,a1,A2,a2,A3,a3⟩] W4) := S'.box;clear S' T4 ht;clear la0 la1 la2 la3;have HRX : Hid x.Right := (HMx.out.mini HRA.out).rt;have HAL : Hid (∀ w,Agree d.au x d.au.st x.st w) := fun w => HMx.out.agree HRA.out w;have HX0 : Hid (0 < x.n ∧ x.n ≤ 4096) := by
  refine ⟨?_,HRX.out.n1⟩;have h1 := ((HMx.out.mini HRA.out).gen []).2 (by rw [rn_nil]; have : d.au.st = 0 := if_neg (by have := HP1.out; omega); omega);rcases HRX.out.rn_cases [] with g | g <;> omega
 have HNU : Hid (Num x.ed x.n) := (HMx.out.mini HRA.out).num;have lx0 := BlkAt.cell (S4.out.get 0 rfl).1 0;have lx1 := BlkAt.cell (S4.out.get 0 rfl).1 1;have lx2 := BlkAt.cell (S4.out.get 0 rfl).1 2;have lx3 := BlkAt.cell (S4.out.get 0 rfl).1 3;simp only [List.getElem?_cons_succ,List.getElem?_cons_zero] at lx0 lx1 lx2 lx3;go_wp2_with fail
 refine (isMinX_c x ⟨X1,x1,X2,x2,X3,x3⟩ _ (fun _ => eBox.caps (S4.out.get 0 rfl)) (eBox.at (S4.out.get 0 rfl) HLx.out)).mono ?_;intro e v5 hk;obtain ⟨f,m3,rfl,hb,HIM⟩ := im_right HRX.out hk;obtain rfl : f = true := HIM.out.2.2 (HMx.out.self HRA.out HIM.out.1);have S5 := Lib.hid (S4.out.next hb);clear hk hb S4 HIM lx0 lx1 lx2 lx3;have lx0 := BlkAt.cell (S5.out.get 0 rfl).1 0;have lx1 := BlkAt.cell (S5.out.get 0 rfl).1 1;have lx2 := BlkAt.cell (S5.out.get 0 rfl).1 2;have lx3 := BlkAt.cell (S5.out.get 0 rfl).1 3;simp only [List.getElem?_cons_succ,List.getElem?_cons_zero] at lx0 lx1 lx2 lx3;have la0 := BlkAt.cell (S5.out.get 1 rfl).1 0;have la1 := BlkAt.cell (S5.out.get 1 rfl).1 1;have la2 := BlkAt.cell (S5.out.get 1 rfl).1 2;have la3 := BlkAt.cell (S5.out.get 1 rfl).1 3;simp only [List.getElem?_cons_succ,List.getElem?_cons_zero] at la0 la1 la2 la3;go_wp2_with fail
 refine (eqvX_c d.au x ⟨A1,a1,A2,a2,A3,a3⟩ ⟨X1,x1,X2,x2,X3,x3⟩ _ (fun _ => eBox.caps (S5.out.get 1 rfl)) (fun _ => eBox.caps (S5.out.get 0 rfl)) (fun _ _ => by
  have h1 := HP6.out;have h2 : x.n.toNat ≤ 4096 := by have := HX0.out.2; omega
  have h3 : (d.au.n.toNat + 2) * (x.n.toNat + 2) ≤ 8 * 4098 := Nat.mul_le_mul (by omega) (by omega);omega) (eBox.at (S5.out.get 1 rfl) HLA.out) (eBox.at (S5.out.get 0 rfl) HLx.out)).mono ?_
 rintro e v6 ⟨AW,cW,l,f,r,rfl,HW,hb,HF⟩;have S6 := Lib.hid (S5.out.next hb);obtain ⟨rfl,rfl,rfl⟩ := eqv_yes HRA.out HRX.out HP1.out HX0.out.1 HAL.out HF.out;clear hb S5 HF HW la0 la1 la2 la3 lx0 lx1 lx2 lx3;have la0 := BlkAt.cell (S6.out.get 1 rfl).1 0;have la1 := BlkAt.cell (S6.out.get 1 rfl).1 1;have la2 := BlkAt.cell (S6.out.get 1 rfl).1 2;have la3 := BlkAt.cell (S6.out.get 1 rfl).1 3;simp only [List.getElem?_cons_succ,List.getElem?_cons_zero] at la0 la1 la2 la3;go_wp2_with fail
 refine (reachableL_c d.au ⟨A1,a1,A2,a2,A3,a3⟩ _ HRA.out HP1.out (eBox.at (S6.out.get 1 rfl) HLA.out) (eBox.caps (S6.out.get 1 rfl))).mono ?_;rintro e v7 ⟨AR,kR,R,rfl,TT,HRR,hrl⟩;have hrl6 : R.length ≤ 6 := by have := HP6.out; omega
 have S7 := ckN S6.out TT.out;clear TT S6 la0 la1 la2 la3;have la0 := BlkAt.cell (S7.out.get 2 rfl).1 0;have la1 := BlkAt.cell (S7.out.get 2 rfl).1 1;have la2 := BlkAt.cell (S7.out.get 2 rfl).1 2;have la3 := BlkAt.cell (S7.out.get 2 rfl).1 3;simp only [List.getElem?_cons_succ,List.getElem?_cons_zero] at la0 la1 la2 la3;go_wp2_with fail
 refine (classesX_c d.au ⟨A1,a1,A2,a2,A3,a3⟩ _ (fun _ => eBox.caps (S7.out.get 2 rfl)) (eBox.at (S7.out.get 2 rfl) HLA.out)).mono ?_;intro e v8 hk;obtain ⟨gk,c,m,he,TT,HCZ⟩ := kx_right HRA.out hk;rw [HNN.out] at he;subst he;have S8 := ckN S7.out TT.out;clear hk TT S7 la0 la1 la2 la3;have HCL : Hid (c.length = N) := by rw [← HNN.out]; exact HCZ.out.1
 have la0 := BlkAt.cell (S8.out.get 3 rfl).1 0;have la1 := BlkAt.cell (S8.out.get 3 rfl).1 1;have la2 := BlkAt.cell (S8.out.get 3 rfl).1 2;have la3 := BlkAt.cell (S8.out.get 3 rfl).1 3;simp only [List.getElem?_cons_succ,List.getElem?_cons_zero] at la0 la1 la2 la3;rw [HNI.out] at la1;clear la0 la2 la3;have hmm0 := @run_makeMap Try.prog;go_upto_region 11 with fail
 obtain ⟨mm,hmm⟩ : ∃ g,g = v8.heap.size := ⟨_,rfl⟩;go_upto_region 12 with fail
 rw [← hmm];refine wp_world (fun V => Sep w.heap.size w [eMapC keyI veB mm (fD ([] : List Int)) ([] : List Int).length,eBlk gk 3 (c.map (Value.int .i64)),eInts R (.slice AR R.length kR),eBox tx x ⟨X1,x1,X2,x2,X3,x3⟩,eBox ta d.au ⟨A1,a1,A2,a2,A3,a3⟩] V) (S8.out.allocMapC keyI veB hmm) fun W9 S' => ?_;have S9 := Lib.hid S';clear S' S8 hmm la1 hmm0;have HRG : Hid (∀ t,t ∈ R → 0 ≤ t ∧ t < (N : Int)) := by
  intro t ht;obtain ⟨h0,u,rfl⟩ := (HRR.out t).1 ht;refine ⟨h0,?_⟩;rcases HRA.out.rn_cases u with g | g
  · omega
  · rw [← HNI.out]; exact g.2
 go_wp2_with fail
 go_loopw [77] (fun i wr => ∃ (k : Nat) (D : List Int),i = .int .i64 ↑k ∧ k ≤ R.length ∧ Hid (OccV c R k D) ∧ (SepW w [eMapC keyI veB mm (fD D) D.length,eBlk gk 3 (c.map (Value.int .i64)),eInts R (.slice AR R.length kR),eBox tx x ⟨X1,x1,X2,x2,X3,x3⟩,eBox ta d.au ⟨A1,a1,A2,a2,A3,a3⟩] wr)) (fun i _ => R.length - (intOf i).toNat)
 case atStart => exact ⟨0,[],rfl,Nat.zero_le _,OccV.start c R,S9.out⟩
 case round =>
  clear S9;obtain ⟨k,D,rfl,hk,DI,S⟩ := hrel;by_cases hlt : k < R.length
  · obtain ⟨b,off,t0,hAe,hb,ht,ct⟩ := IntsAt.at (S.out.ints 2 rfl) hlt;subst hAe;obtain ⟨t,rfl⟩ := Int.eq_ofNat_of_zero_le (HRG.out t0 (List.mem_of_getElem? ht)).1;have htN : t < N := by have := (HRG.out _ (List.mem_of_getElem? ht)).2; omega
    have hcx : c[t]? = some (clsV c t) := by
     have h1 : t < c.length := by rw [HCL.out]; exact htN
     rw [List.getElem?_eq_getElem h1];simp [clsV,List.getD_eq_getElem?_getD,List.getElem?_eq_getElem h1]
    obtain ⟨y,hy⟩ : ∃ y,y = clsV c t := ⟨_,rfl⟩;rw [← hy] at hcx;have cc := BlkAt.cell (S.out.get 1 rfl) t;rw [List.getElem?_map,hcx] at cc;simp only [Option.map_some] at cc;have DI2 : Hid (OccV c R (k + 1) (addD D y)) := by rw [hy]; exact DI.out.next ht
    clear hcx hy ht hb;go_upto_region 17 with fail
    go_wp2_with (at_mapUpdate; refine wpList_mapUpdateA rfl (.tmp 89) (.tmp 93) (.const (.bool true)) 66 3 4 rfl S.out 0 rfl okI Try.underlying66 y true rfl rfl rfl ?_)
    intro w2 h2 _;have S2 : (SepW w [eMapC keyI veB mm (fD (addD D y)) (addD D y).length,eBlk gk 3 (c.map (Value.int .i64)),eInts R (.slice (some ⟨b,off,none⟩) R.length kR),eBox tx x ⟨X1,x1,X2,x2,X3,x3⟩,eBox ta d.au ⟨A1,a1,A2,a2,A3,a3⟩] w2) := by
     rw [fD_add,fD_cnt] at h2;exact h2
    clear h2 S ct cc;go_wp2_with fail
    go_roundw
    case rel => exact ⟨k + 1,addD D y,by go_num,by omega,DI2.out,S2.out⟩
    case measure => simp [intOf]; omega
  · obtain rfl : k = R.length := by omega
    have HCNT : Hid ((D.length : Int) = x.n) := classes_count HRA.out HP1.out HCZ.out.1 HCZ.out.2 (HCZ.out.2.consL HRA.out HCZ.out.1) HMx.out HRR.out DI.out.1 (fun y => by rw [DI.out.2 y,List.take_length]);have hln := MapC.len Try.underlying66 (S.out.get 0 rfl) 3;have hce : (x.n == (D.length : Int)) = true := by rw [HCNT.out]; simp
    have IC := Lib.hid (isCan_c x ⟨X1,x1,X2,x2,X3,x3⟩ wr HRX.out (eBox.caps (S.out.get 3 rfl)) (eBox.at (S.out.get 3 rfl) HLx.out));have lx0 := BlkAt.cell (S.out.get 3 rfl).1 0;have lx1 := BlkAt.cell (S.out.get 3 rfl).1 1;have lx2 := BlkAt.cell (S.out.get 3 rfl).1 2;have lx3 := BlkAt.cell (S.out.get 3 rfl).1 3;simp only [List.getElem?_cons_succ,List.getElem?_cons_zero] at lx0 lx1 lx2 lx3;go_wp2_with fail
    refine IC.out.mono ?_;rintro e w2 ⟨r,m4,rfl,hb,hcn,hr⟩;obtain rfl : r = true := hr.2 (hcn.same HRX.out HX0.out.1 HNU.out);have S2 := Lib.hid (S.out.next hb);clear hb S hcn hr IC hln lx0 lx1 lx2 lx3;go_wp2_with fail
    go_ret
    exact ⟨rfl,S2.out.below⟩
end Go.Proofs.Ytjjifefanjnghaa
