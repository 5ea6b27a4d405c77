/-
  reach.graph.path: the least word by permitted edges.
-/
import Derived.Test.YtimdepdbcdbikaaGreatBas01
import Derived.Test.YtimdepdbcdbikaaGreatBas05
import Derived.Test.YtimdepdbcdbikaaGreatBas07
import Derived.Test.YtimdepdbcdbikaaGreatBas02
import Derived.Test.YtimdepdbcdbikaaGreatBas08
set_option linter.unusedSimpArgs false
set_option linter.unusedVariables false
namespace Go.Proofs.YtimdepdbcdbikaaGreat
open Go.RowKit
set_option maxRecDepth 100000
section
attribute [local go_sem] Oper.semAt_some

def inS (fs : List Ps) (t : Int) : Bool := decide (t ∈ fs.map Ps.s)
def eKeep (w : World) (lo g0 : Nat) : Ent where
 foot := (List.range w.heap.size).filter fun k => decide (lo ≤ k ∧ k ≠ g0)
 ok V := ∀ k,k < w.heap.size → lo ≤ k → k ≠ g0 → V.heap[k]? = w.heap[k]?
 lt V h k hk := by
  simp only [List.mem_filter,List.mem_range,decide_eq_true_eq] at hk
  have := h k hk.1 hk.2.1 hk.2.2
  rw [Array.getElem?_eq_getElem hk.1] at this
  exact (Array.getElem?_eq_some_iff.1 this).1
 turn V V' h hg := fun k h1 h2 h3 => (hg k (by simp only [List.mem_filter,List.mem_range,decide_eq_true_eq]; exact ⟨h1,h2,h3⟩)).trans (h k h1 h2 h3)
theorem Sep.keep {w0 w : World} {n g0 T : Nat} {cs : List Value} (S : Sep n w0 [eBlk g0 T cs] w) : Sep n w0 [eBlk g0 T cs,eKeep w n g0] w := by
 refine ⟨S.fro,fun e he => ?_,fun e he g hg => ?_,?_⟩
 · simp only [List.mem_cons,List.not_mem_nil,or_false] at he
   rcases he with rfl | rfl
   · exact S.get 0 rfl
   · exact fun k _ _ _ => rfl
 · simp only [List.mem_cons,List.not_mem_nil,or_false] at he
   rcases he with rfl | rfl
   · exact S.ge _ (by simp) g hg
   · simp only [eKeep,List.mem_filter,List.mem_range,decide_eq_true_eq] at hg
     exact hg.2.1
 · simp only [List.pairwise_cons,List.mem_cons,List.not_mem_nil,or_false,forall_eq,List.Pairwise.nil,and_true,false_imp_iff,imp_true_iff,implies_true]
   intro g hg hk
   simp only [eBlk,List.mem_cons,List.not_mem_nil,or_false] at hg
   simp only [eKeep,List.mem_filter,List.mem_range,decide_eq_true_eq] at hk
   exact hk.2.2 hg
theorem Sep.kept {w0 w V : World} {n g0 T i j : Nat} {cs : List Value} {es : List Ent} (S0 : Sep n w0 [eBlk g0 T cs] w) (S : Sep n w0 es V) (hi : es[i]? = some (eBlk g0 T cs)) (hj : es[j]? = some (eKeep w n g0)) : Below w.heap.size w V := by
 have hk := S.get j hj
 have b0 := S0.fro.b
 have b1 := S.fro.b
 have blk : ∀ k,k < w.heap.size → V.heap[k]? = w.heap[k]? := fun k hkw => by
  by_cases h1 : k < n
  · rw [b1.block k h1,b0.block k h1]
  · by_cases h2 : k = g0
    · rw [h2]
      have e1 : V.heap[g0]? = _ := S.get i hi
      have e2 : w.heap[g0]? = _ := S0.get 0 rfl
      rw [e1,e2]
    · exact hk k hkw (by omega) h2
 refine ⟨b1.os.trans b0.os.symm,b1.tape.trans b0.tape.symm,b1.output.trans b0.output.symm,?_,blk⟩
 rcases Nat.eq_zero_or_pos w.heap.size with e | e
 · omega
 · have := blk (w.heap.size - 1) (by omega)
   have h2 : w.heap[w.heap.size - 1]? = some _ := Array.getElem?_eq_getElem (by omega)
   rw [h2] at this
   have := (Array.getElem?_eq_some_iff.1 this).1
   omega
theorem psInfo : (Tryz.prog.info? 173).map (fun i => (i.zero,i.size,i.bytes)) = some (some (.agg #[.int .i64 0,.int .i64 0,.int .i64 0]),3,24) := by kernel_rfl
def GivesPth (a : Au) (pm : Ed → Bool) (s0 : Int) (wt : Int → Bool) (w : World) (e : Ending) (w' : World) : Prop := ∃ (A : Option Addr) (c : Nat) (l : List Int) (f : Bool),e = .returned (.tuple #[.slice A l.length c,.bool f]) ∧ Hid (IntsAt w' A l) ∧ Below w.heap.size w w' ∧ Hid (PthW a pm s0 wt f l) ∧ l.length ≤ 4096
set_option maxHeartbeats 8000000 in
theorem path_c (a : Au) (p : AuP) (g0 : Nat) (s0 : Nat) (gw gp : Nat) (lbw lbp : Array Value) (ew : ∀ args w,(callFunc gw args).run Tryz.prog w = .ok (.enter gw args) w) (ep : ∀ args w,(callFunc gp args).run Tryz.prog w = .ok (.enter gp args) w) (wt : Int → Bool) (pm : Ed → Bool) (W0 w : World)
 (hr : a.Right) (hA : EdsAt W0 p.A3 a.ed) (hc : a.ed.length ≤ p.c3) (hs0 : (s0 : Int) < a.n) (hg : Sep W0.heap.size W0 [eBlk g0 3 (mkI (a.n.toNat + 1) fun j => (fstV a.ed j : Int))] w)
 (hw : ∀ V (s : Nat),Below w.heap.size w V → (s : Int) < a.n → Calls Tryz.prog gw (#[.int .i64 (s : Int)] ++ lbw) V (Ret (.bool (wt s)) V))
 (hp : ∀ V x,Below w.heap.size w V → x ∈ a.ed → Calls Tryz.prog gp (#[.agg x.cells.toArray] ++ lbp) V (Ret (.bool (pm x)) V)) :
 Calls Tryz.prog 78 #[.agg (grCells a p g0).toArray,.int .i64 (s0 : Int),.func (.func gw) #[] lbw,.func (.func gp) #[] lbp] w (GivesPth a pm s0 wt w) := by
 have h0 := hr.n0
 have hn := hr.n1
 have HR := Lib.hid hr
 have HA := Lib.hid hA
 have HCP := Lib.hid hc
 have HG := Lib.hid hg
 have HW := Lib.hid hw
 have HP := Lib.hid hp
 obtain ⟨al,n,mr,ed⟩ := a
 obtain ⟨A1,c1,A2,c2,A3,c3⟩ := p
 obtain ⟨N,rfl⟩ := Int.eq_ofNat_of_zero_le h0
 dsimp only [grCells] at HR HA HCP HG HW HP hn hs0 h0 ⊢
 rw [Int.toNat_natCast] at HG ⊢
 have hs0N : s0 < N := by omega
 have SK : Hid (Sep W0.heap.size W0 [eBlk g0 3 (mkI (N + 1) fun j => (fstV ed j : Int)),eKeep w W0.heap.size g0] w) := HG.out.keep
 clear hr hA hc hg hw hp h0 hs0
 have hmk := make_run (P := Tryz.prog) 133 4 (.bool false) 1 Tryz.underlying133 boolInfo rfl N (by omega) (by omega)
 refine calls_marks Tryz.func78 rfl ?_
 simp only [Tryz.ntmps78,List.size_toArray,List.length_cons,List.length_nil,Nat.reduceAdd,Nat.reduceSub,Array.replicate_succ,Array.replicate_zero,List.push_toArray,List.append_toArray,List.nil_append,List.cons_append]
 obtain ⟨gg,hgg⟩ : ∃ g,g = w.heap.size := ⟨_,rfl⟩
 obtain ⟨pb,hpb⟩ : ∃ g,g = w.heap.size + 1 := ⟨_,rfl⟩
 go_upto_region 1 with fail
 rw [← hpb,← hgg]
 refine wp_world (fun W => Sep W0.heap.size W0 [eBlk pb 143 [.func (.func gp) #[] lbp],eBlk gg 140 [.slice A1 al.length c1,.int .i64 (N : Int),.slice A2 mr.length c2,.slice A3 ed.length c3,.slice (some ⟨g0,0,none⟩) (N + 1) (N + 1)],eBlk g0 3 (mkI (N + 1) fun j => (fstV ed j : Int)),eKeep w W0.heap.size g0] W) ((SK.out.alloc' 140 [.slice A1 al.length c1,.int .i64 (N : Int),.slice A2 mr.length c2,.slice A3 ed.length c3,.slice (some ⟨g0,0,none⟩) (N + 1) (N + 1)] rfl hgg).alloc' 143 [.func (.func gp) #[] lbp] rfl (by rw [hpb]; simp)) fun W1 S' => ?_
 have S1 := Lib.hid S'
 clear S' SK hgg hpb
 obtain ⟨q0,hq0⟩ : ∃ g,g = W1.heap.size := ⟨_,rfl⟩
 obtain ⟨sb,hsb⟩ : ∃ g,g = W1.heap.size + 1 := ⟨_,rfl⟩
 go_upto_region 2 with fail
 rw [← hsb,← hq0]
 refine wp_world (fun W => Sep W0.heap.size W0 [eBlk sb 174 [.slice (some ⟨q0,0,none⟩) 1 1],eOwn Ps.cells 3 173 [⟨(s0 : Int),-1,-1⟩] (.slice (some ⟨q0,0,none⟩) 1 1),eBlk pb 143 [.func (.func gp) #[] lbp],eBlk gg 140 [.slice A1 al.length c1,.int .i64 (N : Int),.slice A2 mr.length c2,.slice A3 ed.length c3,.slice (some ⟨g0,0,none⟩) (N + 1) (N + 1)],eBlk g0 3 (mkI (N + 1) fun j => (fstV ed j : Int)),eKeep w W0.heap.size g0] W) (((S1.out.alloc' 173 [.int .i64 (s0 : Int),.int .i64 (-1),.int .i64 (-1)] rfl hq0).own 0 rfl Ps.cells 3 [⟨(s0 : Int),-1,-1⟩] rfl (fun _ => rfl) (by simp [maxLen])).alloc' 174 [.slice (some ⟨q0,0,none⟩) 1 1] rfl (by rw [hsb]; simp)) fun W2 S' => ?_
 have S2 := Lib.hid S'
 clear S' S1 hq0 hsb
 have b1 := qkC S2.out 3 rfl 1 rfl
 obtain ⟨gs,hgs⟩ : ∃ g,g = W2.heap.size := ⟨_,rfl⟩
 obtain ⟨sn,hsn⟩ : ∃ g,g = W2.heap.size + 1 := ⟨_,rfl⟩
 go_upto_region 3 with fail
 rw [← hsn,← hgs]
 refine wp_world (fun W => Sep W0.heap.size W0 [eBlk sn 133 [.slice (some ⟨gs,0,none⟩) N N],eBlk gs 4 (mkB N fun _ => false),eBlk sb 174 [.slice (some ⟨q0,0,none⟩) 1 1],eOwn Ps.cells 3 173 [⟨(s0 : Int),-1,-1⟩] (.slice (some ⟨q0,0,none⟩) 1 1),eBlk pb 143 [.func (.func gp) #[] lbp],eBlk gg 140 [.slice A1 al.length c1,.int .i64 (N : Int),.slice A2 mr.length c2,.slice A3 ed.length c3,.slice (some ⟨g0,0,none⟩) (N + 1) (N + 1)],eBlk g0 3 (mkI (N + 1) fun j => (fstV ed j : Int)),eKeep w W0.heap.size g0] W) ((S2.out.alloc' 4 (mkB N fun _ => false) (by rw [← mkB_rep]; simp) hgs).alloc' 133 [.slice (some ⟨gs,0,none⟩) N N] rfl (by rw [hsn]; simp)) fun W3 S' => ?_
 have S3 := Lib.hid S'
 clear S' S2 hgs hsn b1 hmk
 have s0c := qkC S3.out 0 rfl 0 rfl
 have s1c := (BlkAt.cell (S3.out.get 1 rfl) s0).trans (mkB_get hs0N)
 have s1f := BlkAt.free (S3.out.get 1 rfl) s0
 go_upto_region 4 with fail
 refine wp_world (fun W => Sep W0.heap.size W0 [eBlk sn 133 [.slice (some ⟨gs,0,none⟩) N N],eBlk gs 4 (mkB N fun t => inS [(⟨(s0 : Int),-1,-1⟩ : Ps)] (t : Int)),eBlk sb 174 [.slice (some ⟨q0,0,none⟩) 1 1],eOwn Ps.cells 3 173 [⟨(s0 : Int),-1,-1⟩] (.slice (some ⟨q0,0,none⟩) 1 1),eBlk pb 143 [.func (.func gp) #[] lbp],eBlk gg 140 [.slice A1 al.length c1,.int .i64 (N : Int),.slice A2 mr.length c2,.slice A3 ed.length c3,.slice (some ⟨g0,0,none⟩) (N + 1) (N + 1)],eBlk g0 3 (mkI (N + 1) fun j => (fstV ed j : Int)),eKeep w W0.heap.size g0] W) (by
  have h := S3.out.set 1 rfl s0 (.bool true)
  have e : (mkB N fun t => decide (t = s0) || false) = mkB N fun t => inS [(⟨(s0 : Int),-1,-1⟩ : Ps)] (t : Int) := mkB_congr fun t _ => by
   unfold inS
   by_cases e : t = s0
   · rw [e]; simp
   · have : ¬ (t : Int) = (s0 : Int) := by omega
     simp [e,this]
  rw [mkB_set,e] at h
  exact h) fun W4 S' => ?_
 have S4 := Lib.hid S'
 clear S' S3 s0c s1c s1f
 obtain ⟨ii,hii⟩ : ∃ g,g = W4.heap.size := ⟨_,rfl⟩
 go_upto_block 0 with fail
 rw [← hii]
 refine wp_world (fun W => Sep W0.heap.size W0 ([eBlk ii 3 [.int .i64 0],eBlk sb 174 [.slice (some ⟨q0,0,none⟩) 1 1],eOwn Ps.cells 3 173 [⟨(s0 : Int),-1,-1⟩] (.slice (some ⟨q0,0,none⟩) 1 1),eBlk sn 133 [.slice (some ⟨gs,0,none⟩) N N],eBlk gs 4 (mkB N fun t => inS [⟨(s0 : Int),-1,-1⟩] (t : Int)),eBlk gg 140 [.slice A1 al.length c1,.int .i64 (N : Int),.slice A2 mr.length c2,.slice A3 ed.length c3,.slice (some ⟨g0,0,none⟩) (N + 1) (N + 1)],eBlk pb 143 [.func (.func gp) #[] lbp],eBlk g0 3 (mkI (N + 1) fun j => (fstV ed j : Int)),eKeep w W0.heap.size g0] ++ mksE []) W) ((S4.out.alloc' 3 [.int .i64 0] rfl hii).pick [0,3,4,1,2,6,5,7,8] (by decide)) fun W5 S' => ?_
 have S5 := Lib.hid S'
 clear S' S4 hii
 have LB : Hid (∀ i k t fs ws,PInv ⟨al,(N : Int),mr,ed⟩ pm s0 wt i k t fs ws → fs.length ≤ N) := fun i k t fs ws h => h.len
 go_wp2_with fail
 obtain ⟨LI,hLI⟩ : ∃ LI : Act → World → Prop,Hid (∀ a' wr,LI a' wr ↔ (∃ (i : Nat) (fs : List Ps) (ws : List (List Int)) (AQ : Option Addr) (cQ : Nat) (ii : Nat) (Ds : List Nat),
  (i ≤ fs.length ∧ Hid (PInv ⟨al,(N : Int),mr,ed⟩ pm s0 wt i 0 i fs ws) ∧ Hid (Sep W0.heap.size W0 ([eBlk ii 3 [.int .i64 (i : Int)],eBlk sb 174 [.slice AQ fs.length cQ],eOwn Ps.cells 3 173 fs (.slice AQ fs.length cQ),eBlk sn 133 [.slice (some ⟨gs,0,none⟩) N N],eBlk gs 4 (mkB N fun t => inS fs (t : Int)),eBlk gg 140 [.slice A1 al.length c1,.int .i64 (N : Int),.slice A2 mr.length c2,.slice A3 ed.length c3,.slice (some ⟨g0,0,none⟩) (N + 1) (N + 1)],eBlk pb 143 [.func (.func gp) #[] lbp],eBlk g0 3 (mkI (N + 1) fun j => (fstV ed j : Int)),eKeep w W0.heap.size g0] ++ mksE Ds) wr)) ∧ ∃ u : Nat → Value,a' = { tmps := #[u 0,u 1,.func (.func gw) #[] lbw,u 3,.pointer (some ⟨gg,0,none⟩),u 5,u 6,.pointer (some ⟨pb,0,none⟩),u 8,u 9,.pointer (some ⟨sb,0,none⟩),.pointer (some ⟨sn,0,none⟩),.pointer (some ⟨ii,0,none⟩),u 13,u 14,u 15,u 16,u 17,u 18,u 19,u 20,u 21,u 22,u 23,u 24,u 25,u 26,u 27,u 28,u 29,u 30,u 31,u 32,u 33,u 34,u 35,u 36,u 37,u 38,u 39,u 40,u 41,u 42,u 43,u 44,u 45,u 46,u 47,u 48,u 49,u 50,u 51,u 52,u 53,u 54,u 55,u 56,u 57,u 58,u 59,u 60,u 61,u 62,u 63,u 64,u 65,u 66,u 67,u 68,u 69,u 70,u 71,u 72,u 73,u 74,u 75,u 76,u 77,u 78,u 79,u 80,u 81,u 82,u 83,u 84,u 85,u 86,u 87,u 88,u 89,u 90,u 91,u 92,u 93,u 94],defers := mksD Ds })) := ⟨_,fun _ _ => Iff.rfl⟩
 refine wp_loop LI (fun a' wr => N + 1 - boxN wr (a'.tmps.getD 12 undef)) ?_ ?_
 · exact (hLI.out _ _).2 ⟨0,[⟨(s0 : Int),-1,-1⟩],[[]],some ⟨q0,0,none⟩,1,ii,[],⟨Nat.zero_le _,PInv.start pm wt (by omega) (by simp only; omega),S5.out⟩,fr_of (fun u => #[u 0,u 1,.func (.func gw) #[] lbw,u 3,.pointer (some ⟨gg,0,none⟩),u 5,u 6,.pointer (some ⟨pb,0,none⟩),u 8,u 9,.pointer (some ⟨sb,0,none⟩),.pointer (some ⟨sn,0,none⟩),.pointer (some ⟨ii,0,none⟩),u 13,u 14,u 15,u 16,u 17,u 18,u 19,u 20,u 21,u 22,u 23,u 24,u 25,u 26,u 27,u 28,u 29,u 30,u 31,u 32,u 33,u 34,u 35,u 36,u 37,u 38,u 39,u 40,u 41,u 42,u 43,u 44,u 45,u 46,u 47,u 48,u 49,u 50,u 51,u 52,u 53,u 54,u 55,u 56,u 57,u 58,u 59,u 60,u 61,u 62,u 63,u 64,u 65,u 66,u 67,u 68,u 69,u 70,u 71,u 72,u 73,u 74,u 75,u 76,u 77,u 78,u 79,u 80,u 81,u 82,u 83,u 84,u 85,u 86,u 87,u 88,u 89,u 90,u 91,u 92,u 93,u 94]) rfl⟩
 · clear S5
   rintro a' wr hLW
   obtain ⟨i,fs,ws,AQ,cQ,ii,Ds,⟨hi,PI,S⟩,u,rfl⟩ := (hLI.out _ _).1 hLW
   clear hLW
   have ci := BlkAt.cell (S.out.get 0 rfl) 0
   have cq := BlkAt.cell (S.out.get 1 rfl) 0
   simp only [List.getElem?_cons_zero] at ci cq
   have HB0 : Hid (boxN wr (.pointer (some ⟨ii,0,none⟩)) = i) := boxN_of ci
   have hfl := LB.out _ _ _ _ _ PI.out
   by_cases hlt : i < fs.length
   · obtain ⟨⟨s1,vb,ve⟩,hvk⟩ : ∃ vk,fs[i]? = some vk := ⟨_,List.getElem?_eq_getElem hlt⟩
     obtain ⟨gf,of,hFe,hgf,f0,f1,f2⟩ := PsE.get (Own.reads (fun _ => rfl) (S.out.get 2 rfl)) hvk
     subst hFe
     have hrg := PI.out.rg _ (List.mem_of_getElem? hvk)
     dsimp only at f0 f1 f2 hrg
     obtain ⟨s,rfl⟩ := Int.eq_ofNat_of_zero_le hrg.1
     have hsN : s < N := by omega
     have FSI := Lib.hid hvk
     have BK := Lib.hid (HG.out.kept S.out (i := 7) (j := 8) rfl rfl)
     obtain ⟨q,hq⟩ : ∃ q,q = wt s := ⟨_,rfl⟩
     have CW := Lib.hid (HW.out wr s BK.out (by omega))
     rw [← hq] at CW
     have HQ := Lib.hid hq
     have hlz := hlt
     clear hvk hq hrg
     go_wp2_with fail
     refine CW.out.mono ?_
     rintro e w2 ⟨rfl,hb⟩
     have S2 := Lib.hid (S.out.next hb)
     clear hb CW S f0 f1 f2 hgf ci cq
     cases q
     case true =>
      have hv' : (fs.map Ps.s)[i]? = some (s : Int) := by rw [List.getElem?_map,FSI.out]; rfl
      obtain ⟨wk,hwk⟩ := PI.out.bfs.word hv'
      have LW : Hid (LeastW (LeadsTo (stpP ⟨al,(N : Int),mr,ed⟩ pm) s0 ev32 (fun v => 0 ≤ v ∧ wt v = true)) wk) := PI.out.least HR.out FSI.out hwk HQ.out.symm
      have WK := Lib.hid hwk
      have LK := Lib.hid PI.out.lk
      have ZW := Lib.hid PI.out.bfs.zw
      have ci := BlkAt.cell (S2.out.get 0 rfl) 0
      have cq := BlkAt.cell (S2.out.get 1 rfl) 0
      simp only [List.getElem?_cons_zero] at ci cq
      clear hv' hwk
      go_wp2_with fail
      clear ci cq
      go_loopw [13,14] (fun wv kv wx => ∃ (acc : List Int) (t : Nat) (u : List Int),kv = .int .i64 (t : Int) ∧ t < fs.length ∧ acc.length + t ≤ i ∧ Hid (ws[t]? = some u ∧ u ++ acc.reverse = wk) ∧ Hid (Fro w2.heap.size w2 wx) ∧ Hid (OwnI w2.heap.size acc wv wx)) (fun _ kv _ => (intOf kv).toNat)
      case atStart => exact ⟨[],i,wk,rfl,hlz,by simp,⟨WK.out,by simp⟩,Fro.here w2,Own.nil _⟩
      case round =>
       obtain ⟨acc,t,u',rfl,ht,hat,U,R3,W3⟩ := hrel
       have S3 := Lib.hid (S2.out.next R3.out.b)
       obtain ⟨vt,hvt⟩ : ∃ vt,fs[t]? = some vt := ⟨_,List.getElem?_eq_getElem ht⟩
       obtain ⟨gf',of',hA',hgb',z0,z1,z2⟩ := PsE.get (Own.reads (fun _ => rfl) (S3.out.get 2 rfl)) hvt
       cases hA'
       have hl := LK.out.2 t (vt.b,vt.e) (by rw [List.getElem?_map,hvt]; rfl)
       obtain ⟨ts,tb,te⟩ := vt
       dsimp only at z0 z1 z2 hl
       have cq := BlkAt.cell (S3.out.get 1 rfl) 0
       simp only [List.getElem?_cons_zero] at cq
       have HVT := Lib.hid hvt
       clear hvt
       by_cases h0 : t = 0
       · subst h0
         have htb : tb = -1 := hl.1 rfl
         subst htb
         have E : Hid (acc.reverse = wk) := by
          have := U.out.1
          rw [ZW.out] at this
          cases this
          exact U.out.2
         clear hl
         rcases W3.out.2 with ⟨hu8,hacc⟩ | ⟨g3,cap3,cur3,hu8,hg3,_⟩
         · have HAC : Hid (acc = []) := List.length_eq_zero_iff.1 hacc
           subst hu8
           clear hacc
           go_wp2_with fail
           refine (reverse_nil_c _).mono ?_
           rintro e w4 ⟨⟨u,rfl⟩,hb⟩
           have S4 := Lib.hid (S3.out.next hb)
           clear hb z0 z1 z2 cq
           go_wp2_with fail
           refine ret_marks Ds S4.out fun w' S5 => ?_
           have BK := HG.out.kept S5 (i := 7) (j := 8) rfl rfl
           refine ⟨.tuple #[.slice none 0 0,.bool true],by simp [results,Tryz.results78,go_sem],?_⟩
           refine ⟨none,0,[],true,rfl,SlAt.nil,BK,.inl ⟨rfl,?_⟩,by simp⟩
           have := E.out
           rw [HAC.out] at this
           simp only [List.reverse_nil] at this
           rw [this]; exact LW.out
         · subst hu8
           have RC := Lib.hid (reverse_c w2.heap.size acc g3 cap3 wr W3.out hg3 (by omega))
           clear hg3
           go_wp2_with fail
           refine RC.out.mono ?_
           rintro e w4 ⟨⟨u,rfl⟩,ho,hb⟩
           have S4 : Hid (Sep W0.heap.size W0 ([eInts acc.reverse (.slice (some ⟨g3,0,none⟩) acc.length cap3),eBlk ii 3 [.int .i64 (i : Int)],eBlk sb 174 [.slice (some ⟨gf,of,none⟩) fs.length cQ],eOwn Ps.cells 3 173 fs (.slice (some ⟨gf,of,none⟩) fs.length cQ),eBlk sn 133 [.slice (some ⟨gs,0,none⟩) N N],eBlk gs 4 (mkB N fun t => inS fs (t : Int)),eBlk gg 140 [.slice A1 al.length c1,.int .i64 (N : Int),.slice A2 mr.length c2,.slice A3 ed.length c3,.slice (some ⟨g0,0,none⟩) (N + 1) (N + 1)],eBlk pb 143 [.func (.func gp) #[] lbp],eBlk g0 3 (mkI (N + 1) fun j => (fstV ed j : Int)),eKeep w W0.heap.size g0] ++ mksE Ds) w4) := S2.out.newI (l := acc.reverse) ho.out (R3.out.b.trans hb)
           clear ho hb RC z0 z1 z2 cq
           go_wp2_with fail
           refine ret_marks Ds S4.out fun w' S5 => ?_
           have BK := HG.out.kept S5 (i := 8) (j := 9) rfl rfl
           refine ⟨.tuple #[.slice (some ⟨g3,0,none⟩) acc.length cap3,.bool true],by simp [results,Tryz.results78,go_sem],?_⟩
           refine ⟨some ⟨g3,0,none⟩,cap3,wk,true,by rw [← E.out,List.length_reverse],?_,BK,.inl ⟨rfl,LW.out⟩,by rw [← E.out,List.length_reverse]; have := LB.out _ _ _ _ _ PI.out; omega⟩
           have := S5.get 0 rfl
           rw [← E.out]
           have h2 : OwnI 0 acc.reverse (.slice (some ⟨g3,0,none⟩) acc.length cap3) w' := this
           rw [← List.length_reverse] at h2
           exact OwnI.ints h2
       · obtain ⟨t',u2,wt',e1,e2,e3,e4,e5⟩ := hl.2 (by omega)
         subst e1
         have U2 : Hid (ws[t']? = some u2 ∧ u2 ++ (acc ++ [te]).reverse = wk) := by
          refine ⟨e3,?_⟩
          have h1 := U.out.1
          rw [e4] at h1
          cases h1
          rw [← U.out.2,e5]
          simp
         clear hl e3 e4 e5
         go_wp2_with (at_builtin; refine wpList_push rfl _ _ 31 rfl (W3.out.alloc _) Tryz.underlying31 _ 8 intInfo rfl (by decide) rfl te _ rfl rfl (one_cell _ _ [_] _ rfl) (encI_one _) (by omega) (by decide) (R3.out.alloc _).z ?_)
         intro A' c' w4 ho hg hat4
         have R4 := Lib.hid ((R3.out.alloc _).push (W3.out.alloc _) hg)
         have O4 := Lib.hid ho
         have S4 := Lib.hid (S2.out.next R4.out.b)
         obtain ⟨gx,ox,hAx,_,_,k1,k2⟩ := PsE.get (Own.reads (fun _ => rfl) (S4.out.get 2 rfl)) HVT.out
         cases hAx
         dsimp only at k1 k2
         have cq := BlkAt.cell (S4.out.get 1 rfl) 0
         simp only [List.getElem?_cons_zero] at cq
         clear ho hg hat4 z0 z1 z2
         go_wp2_with fail
         go_roundw
         case rel => exact ⟨acc ++ [te],t',u2,rfl,by omega,by simp; omega,U2.out,R4.out,O4.out⟩
         case measure => simp [intOf]; omega
     case false =>
      have PI2 := Lib.hid (PI.out.test FSI.out HQ.out.symm)
      go_upto_region 15 with fail
      refine wp_world (fun W => Sep W0.heap.size W0 ([eBlk ii 3 [.int .i64 (i : Int)],eBlk sb 174 [.slice (some ⟨gf,of,none⟩) fs.length cQ],eOwn Ps.cells 3 173 fs (.slice (some ⟨gf,of,none⟩) fs.length cQ),eBlk sn 133 [.slice (some ⟨gs,0,none⟩) N N],eBlk gs 4 (mkB N fun t => inS fs (t : Int)),eBlk gg 140 [.slice A1 al.length c1,.int .i64 (N : Int),.slice A2 mr.length c2,.slice A3 ed.length c3,.slice (some ⟨g0,0,none⟩) (N + 1) (N + 1)],eBlk pb 143 [.func (.func gp) #[] lbp],eBlk g0 3 (mkI (N + 1) fun j => (fstV ed j : Int)),eKeep w W0.heap.size g0] ++ mksE Ds) W) S2.out fun W12 S' => ?_
      have S12 := Lib.hid S'
      clear S' S2
      have hxz : Hid (∀ k,k ≤ (outOf ed s).length → k ≤ 32) := fun k hk => Nat.le_trans hk (outOf_32' HR.out s)
      have S1 := Lib.hid S12.out.drew
      refine wp_region_held_drew (S := (fun V => Sep W0.heap.size W0 [eBlk ii 3 [.int .i64 (i : Int)],eBlk sb 174 [.slice (some ⟨gf,of,none⟩) fs.length cQ],eOwn Ps.cells 3 173 fs (.slice (some ⟨gf,of,none⟩) fs.length cQ),eBlk gg 140 [.slice A1 al.length c1,.int .i64 (N : Int),.slice A2 mr.length c2,.slice A3 ed.length c3,.slice (some ⟨g0,0,none⟩) (N + 1) (N + 1)]] V)) (by kernel_rfl) ?_ (fun hHeld => ?_)
      · exact S1.out.left.pick [0,1,2,5] (by decide)
      generalize hwz : W12.drew = w1 at *
      clear hwz
      refine tkH 0 rfl (v := ?_) (by kernel_rfl) ?_ hHeld ?_
      rotate_left
      · intro V hSw
        have g0 := qkC hSw 3 rfl 0 rfl
        have g1 := qkC hSw 3 rfl 1 rfl
        have g2 := qkC hSw 3 rfl 2 rfl
        have g3 := qkC hSw 3 rfl 3 rfl
        have g4 := qkC hSw 3 rfl 4 rfl
        clear hSw
        first | (go_simp; done) | (go_simp; with_reducible rfl)
      try simp only [sx]
      refine tkH 1 rfl (v := ?_) (by kernel_rfl) ?_ hHeld ?_
      rotate_left
      · intro V hSw
        have q0 := qkC hSw 1 rfl 0 rfl
        clear hSw
        first | (go_simp; done) | (go_simp; with_reducible rfl)
      try simp only [sx]
      refine tkH 2 rfl (v := ?_) (by kernel_rfl) ?_ hHeld ?_
      rotate_left
      · intro V hSw
        have c0 := qkC hSw 0 rfl 0 rfl
        clear hSw
        first | (go_simp; done) | (go_simp; with_reducible rfl)
      try simp only [sx]
      refine tkP 3 rfl hHeld ?_
      try simp only [sx]
      refine tkP 4 rfl hHeld ?_
      try simp only [sx]
      refine tkH 5 rfl (v := ?_) (by kernel_rfl) ?_ hHeld ?_
      rotate_left
      · intro V hSw
        have IL := Sep.get (show Sep W0.heap.size W0 _ V from hSw) 2 rfl
        obtain ⟨y1,y2,y3,y4,cy,_,_⟩ := PsE.get (Own.reads (fun _ => rfl) IL) FSI.out
        cases y3
        dsimp only at cy
        have c0 := qkC hSw 0 rfl 0 rfl
        clear hSw
        first | (go_simp; done) | (go_simp; with_reducible rfl)
      try simp only [sx]
      refine rdH 6 rfl fun K hK => ?_
      go_simp
      refine (edgesSeq_c ⟨al,(N : Int),mr,ed⟩ ⟨A1,c1,A2,c2,A3,c3⟩ g0 s w1).mono ?_
      rintro e w2 ⟨gx,bs,rfl,T⟩
      have S2 : Hid (Sep W0.heap.size W0 ([eBlk bs 3 [.int .i64 (s : Int)],eBlk gx 140 [.slice A1 al.length c1,.int .i64 (N : Int),.slice A2 mr.length c2,.slice A3 ed.length c3,.slice (some ⟨g0,0,none⟩) (N + 1) (N + 1)],eBlk ii 3 [.int .i64 (i : Int)],eBlk sb 174 [.slice (some ⟨gf,of,none⟩) fs.length cQ],eOwn Ps.cells 3 173 fs (.slice (some ⟨gf,of,none⟩) fs.length cQ),eBlk sn 133 [.slice (some ⟨gs,0,none⟩) N N],eBlk gs 4 (mkB N fun t => inS fs (t : Int)),eBlk gg 140 [.slice A1 al.length c1,.int .i64 (N : Int),.slice A2 mr.length c2,.slice A3 ed.length c3,.slice (some ⟨g0,0,none⟩) (N + 1) (N + 1)],eBlk pb 143 [.func (.func gp) #[] lbp],eBlk g0 3 (mkI (N + 1) fun j => (fstV ed j : Int)),eKeep w W0.heap.size g0] ++ mksE Ds) w2) := S1.out.news T.out
      clear T
      refine hK.out _ _ ?_ (fun hHeld => ?_)
      · exact S2.out.left.pick [2,3,4,7] (by decide)
      clear hK K
      try simp only [sx]
      refine wpAnyH_done (by kernel_rfl) ?_ _
      have S13 : Hid (Sep W0.heap.size W0 ([eBlk bs 3 [.int .i64 (s : Int)],eBlk gx 140 [.slice A1 al.length c1,.int .i64 (N : Int),.slice A2 mr.length c2,.slice A3 ed.length c3,.slice (some ⟨g0,0,none⟩) (N + 1) (N + 1)],eBlk ii 3 [.int .i64 (i : Int)],eBlk sb 174 [.slice (some ⟨gf,of,none⟩) fs.length cQ],eOwn Ps.cells 3 173 fs (.slice (some ⟨gf,of,none⟩) fs.length cQ),eBlk sn 133 [.slice (some ⟨gs,0,none⟩) N N],eBlk gs 4 (mkB N fun t => inS fs (t : Int)),eBlk gg 140 [.slice A1 al.length c1,.int .i64 (N : Int),.slice A2 mr.length c2,.slice A3 ed.length c3,.slice (some ⟨g0,0,none⟩) (N + 1) (N + 1)],eBlk pb 143 [.func (.func gp) #[] lbp],eBlk g0 3 (mkI (N + 1) fun j => (fstV ed j : Int)),eKeep w W0.heap.size g0] ++ mksE Ds) w2) := S2.out
      clear S2
      go_wp2_with fail
      obtain ⟨RR,hRR⟩ : ∃ RR : Nat → List Ent → Prop,Hid (∀ t es,RR t es ↔ (∃ (fs' : List Ps) (ws' : List (List Int)) (AQ' : Option Addr) (cQ' : Nat),Hid (PEd ⟨al,(N : Int),mr,ed⟩ pm s0 wt i t s fs' ws') ∧ Hid (fs'[i]? = some ⟨(s : Int),vb,ve⟩) ∧ es = [eBlk bs 3 [.int .i64 (s : Int)],eBlk gx 140 [.slice A1 al.length c1,.int .i64 (N : Int),.slice A2 mr.length c2,.slice A3 ed.length c3,.slice (some ⟨g0,0,none⟩) (N + 1) (N + 1)],eBlk ii 3 [.int .i64 (i : Int)],eBlk sb 174 [.slice AQ' fs'.length cQ'],eOwn Ps.cells 3 173 fs' (.slice AQ' fs'.length cQ'),eBlk sn 133 [.slice (some ⟨gs,0,none⟩) N N],eBlk gs 4 (mkB N fun t => inS fs' (t : Int)),eBlk gg 140 [.slice A1 al.length c1,.int .i64 (N : Int),.slice A2 mr.length c2,.slice A3 ed.length c3,.slice (some ⟨g0,0,none⟩) (N + 1) (N + 1)],eBlk pb 143 [.func (.func gp) #[] lbp],eBlk g0 3 (mkI (N + 1) fun j => (fstV ed j : Int)),eKeep w W0.heap.size g0] ++ mksE Ds)) := ⟨_,fun _ _ => Iff.rfl⟩
      refine wp_rangeFunc_upd1 (enc := fun x : Ed => .agg x.cells.toArray) (rfl) (fun _ _ => rfl) (T := fun _ => []) 0 (edges_iter ⟨al,(N : Int),mr,ed⟩ ⟨A1,c1,A2,c2,A3,c3⟩ g0 gx bs s W0.heap.size 0 W0 _ HR.out HA.out rfl hsN HCP.out) RR
       (fun _ _ => False) S13.out ((hRR.out _ _).2 ⟨fs,ws,some ⟨gf,of,none⟩,cQ,PEd.start HR.out PI2.out,FSI.out,rfl⟩) (fun k es hes => ⟨trivial,?_⟩)
       (fun a x b => { tmps := (a.tmps.setIfInBounds 69 (.agg x.cells.toArray)).setIfInBounds 15 (.pointer (some ⟨b,0,none⟩)),defers := [] }) (fun x b => [eBlk b 76 x.cells]) ?_ ?_ ?_ ?_
      · obtain ⟨fs',ws',AQ',cQ',_,_,rfl⟩ := (hRR.out _ _).1 hes
        intro e he
        simp only [List.mem_cons,List.not_mem_nil,or_false] at he
        rcases he with rfl | rfl | rfl
        · exact List.mem_of_getElem? (i := 0) rfl
        · exact List.mem_of_getElem? (i := 1) rfl
        · exact List.mem_of_getElem? (i := 9) rfl
      · clear S13 PI PI2
        rintro l eL eD k x es1 W KK hx hes SW hK
        obtain ⟨fs',ws',AQ',cQ',_,_,rfl⟩ := (hRR.out _ _).1 hes
        have HK2 := Lib.hid hK
        have S1 := Lib.hid SW
        clear hK SW
        simp only [List.setIfInBounds_toArray,List.set_cons_succ,List.set_cons_zero,Ed.cells]
        gi_wp2
        exact HK2.out W.heap.size _ (Sep.third (S1.out.alloc 76 _))
      · clear S13 PI PI2
        rintro l eL eD t x es1 bx W hx hes SW
        obtain ⟨fs',ws',AQ',cQ',B,FS',rfl⟩ := (hRR.out _ _).1 hes
        clear hes
        have hm := (mem_outOf.1 (List.mem_of_getElem? hx)).1
        have hxr := edge_next HR.out hm
        obtain ⟨ys,ye,d'⟩ := x
        obtain ⟨d,hd⟩ := Int.eq_ofNat_of_zero_le hxr.2.2.2.1
        dsimp only at hd
        subst hd
        have hdN : d < N := by have := hxr.2.2.2.2; dsimp only at this; omega
        have HX := Lib.hid hx
        have HM := Lib.hid hm
        have S1 : Hid (Sep W0.heap.size W0 ([eL,eD,eBlk bx 76 [.int .i64 ys,.int .i64 ye,.int .i64 (d : Int)],eBlk bs 3 [.int .i64 (s : Int)],eBlk gx 140 [.slice A1 al.length c1,.int .i64 (N : Int),.slice A2 mr.length c2,.slice A3 ed.length c3,.slice (some ⟨g0,0,none⟩) (N + 1) (N + 1)],eBlk ii 3 [.int .i64 (i : Int)],eBlk sb 174 [.slice AQ' fs'.length cQ'],eOwn Ps.cells 3 173 fs' (.slice AQ' fs'.length cQ'),eBlk sn 133 [.slice (some ⟨gs,0,none⟩) N N],eBlk gs 4 (mkB N fun t => inS fs' (t : Int)),eBlk gg 140 [.slice A1 al.length c1,.int .i64 (N : Int),.slice A2 mr.length c2,.slice A3 ed.length c3,.slice (some ⟨g0,0,none⟩) (N + 1) (N + 1)],eBlk pb 143 [.func (.func gp) #[] lbp],eBlk g0 3 (mkI (N + 1) fun j => (fstV ed j : Int)),eKeep w W0.heap.size g0] ++ mksE Ds) W) := SW
        clear SW hx hm hxr
        have b2 := qkC S1.out 2 rfl 2 rfl
        have snc := qkC S1.out 8 rfl 0 rfl
        have gsc := (BlkAt.cell (S1.out.get 9 rfl) d).trans (mkB_get hdN)
        obtain ⟨q,hq⟩ : ∃ q,q = inS fs' (d : Int) := ⟨_,rfl⟩
        rw [← hq] at gsc
        have HQ2 := Lib.hid hq
        clear hq
        dsimp only [Ed.cells]
        simp only [List.setIfInBounds_toArray,List.set_cons_succ,List.set_cons_zero]
        cases q
        case true =>
         have hin : (d : Int) ∈ fs'.map Ps.s := of_decide_eq_true HQ2.out.symm
         have B2 := Lib.hid (B.out.old HR.out FS'.out rfl HX.out (.inl hin))
         clear hin
         gi_upto_region 17 with fail
         refine wpIn_region_list (by kernel_rfl) (fun _ _ h => h) ?_
         go_wp2_with fail
         gi_wp2
         exact ⟨_,(hRR.out _ _).2 ⟨fs',ws',AQ',cQ',B2.out,FS'.out,rfl⟩,S1.out.drop3⟩
        case false =>
         have hno : ¬ (d : Int) ∈ fs'.map Ps.s := of_decide_eq_false HQ2.out.symm
         have HNO := Lib.hid hno
         have BK := Lib.hid (HG.out.kept S1.out (i := 12) (j := 13) rfl rfl)
         obtain ⟨pv,hpv⟩ : ∃ z,z = pm ⟨ys,ye,(d : Int)⟩ := ⟨_,rfl⟩
         have CP := Lib.hid (HP.out W ⟨ys,ye,(d : Int)⟩ BK.out HM.out)
         rw [← hpv] at CP
         have HPV := Lib.hid hpv
         have b0 := qkC S1.out 2 rfl 0 rfl
         have b1 := qkC S1.out 2 rfl 1 rfl
         have pbc := qkC S1.out 11 rfl 0 rfl
         clear hno hpv
         gi_wp2
         refine ⟨trivial,rfl,(CallsIn.inRound l (callsIn_wide.2 CP.out)).mono ?_⟩
         rintro e w5 ⟨rfl,hb⟩
         have S2 := Lib.hid (S1.out.next hb)
         clear hb CP S1 b0 b1 b2 snc gsc pbc
         cases pv
         case false =>
          have B2 := Lib.hid (B.out.old HR.out FS'.out rfl HX.out (.inr HPV.out.symm))
          gi_wp2
          exact ⟨_,(hRR.out _ _).2 ⟨fs',ws',AQ',cQ',B2.out,FS'.out,rfl⟩,S2.out.drop3⟩
         case true =>
          obtain ⟨ws2,B2⟩ := B.out.new HR.out FS'.out rfl HX.out HNO.out HPV.out.symm
          have B3 := Lib.hid B2
          have FS2 : Hid (fs'[i]? = some ⟨(s : Int),vb,ve⟩ → ((fs' ++ [(⟨(d : Int),(i : Int),ye⟩ : Ps)]))[i]? = some ⟨(s : Int),vb,ve⟩) := fun h => get_keep h _
          have hln : Hid (fs'.length ≤ 4096) := by
           obtain ⟨k,_,h,_⟩ := B.out
           exact Nat.le_trans h.len (by simp only; omega)
          clear B2
          have b2 := qkC S2.out 2 rfl 2 rfl
          have b1 := qkC S2.out 2 rfl 1 rfl
          have snc := qkC S2.out 8 rfl 0 rfl
          have gsc := (BlkAt.cell (S2.out.get 9 rfl) d).trans (mkB_get hdN)
          have gsf := BlkAt.free (S2.out.get 9 rfl) d
          have S3 : Hid (Sep W0.heap.size W0 ([eL,eD,eBlk bx 76 [.int .i64 ys,.int .i64 ye,.int .i64 (d : Int)],eBlk bs 3 [.int .i64 (s : Int)],eBlk gx 140 [.slice A1 al.length c1,.int .i64 (N : Int),.slice A2 mr.length c2,.slice A3 ed.length c3,.slice (some ⟨g0,0,none⟩) (N + 1) (N + 1)],eBlk ii 3 [.int .i64 (i : Int)],eBlk sb 174 [.slice AQ' fs'.length cQ'],eOwn Ps.cells 3 173 fs' (.slice AQ' fs'.length cQ'),eBlk sn 133 [.slice (some ⟨gs,0,none⟩) N N],eBlk gs 4 (mkB N fun t => inS (fs' ++ [(⟨(d : Int),(i : Int),ye⟩ : Ps)]) (t : Int)),eBlk gg 140 [.slice A1 al.length c1,.int .i64 (N : Int),.slice A2 mr.length c2,.slice A3 ed.length c3,.slice (some ⟨g0,0,none⟩) (N + 1) (N + 1)],eBlk pb 143 [.func (.func gp) #[] lbp],eBlk g0 3 (mkI (N + 1) fun j => (fstV ed j : Int)),eKeep w W0.heap.size g0] ++ mksE Ds) (w5.setCell ⟨gs,d,none⟩ (.bool true))) := by
           have h := S2.out.set 9 rfl d (.bool true)
           have e : (mkB N fun t => decide (t = d) || inS fs' (t : Int)) = mkB N fun t => inS (fs' ++ [(⟨(d : Int),(i : Int),ye⟩ : Ps)]) (t : Int) := mkB_congr fun t _ => by
            unfold inS
            by_cases e : t = d
            · rw [e]; simp
            · have : ¬ (t : Int) = (d : Int) := by omega
              simp [e,this]
           rw [mkB_set,e] at h
           exact h
          gi_upto_region 19 with fail
          refine wpIn_world (fun V => Sep W0.heap.size W0 ([eL,eD,eBlk bx 76 [.int .i64 ys,.int .i64 ye,.int .i64 (d : Int)],eBlk bs 3 [.int .i64 (s : Int)],eBlk gx 140 [.slice A1 al.length c1,.int .i64 (N : Int),.slice A2 mr.length c2,.slice A3 ed.length c3,.slice (some ⟨g0,0,none⟩) (N + 1) (N + 1)],eBlk ii 3 [.int .i64 (i : Int)],eBlk sb 174 [.slice AQ' fs'.length cQ'],eOwn Ps.cells 3 173 fs' (.slice AQ' fs'.length cQ'),eBlk sn 133 [.slice (some ⟨gs,0,none⟩) N N],eBlk gs 4 (mkB N fun t => inS (fs' ++ [(⟨(d : Int),(i : Int),ye⟩ : Ps)]) (t : Int)),eBlk gg 140 [.slice A1 al.length c1,.int .i64 (N : Int),.slice A2 mr.length c2,.slice A3 ed.length c3,.slice (some ⟨g0,0,none⟩) (N + 1) (N + 1)],eBlk pb 143 [.func (.func gp) #[] lbp],eBlk g0 3 (mkI (N + 1) fun j => (fstV ed j : Int)),eKeep w W0.heap.size g0] ++ mksE Ds) V) S3.out fun W6 S' => ?_
          have S4 := Lib.hid S'
          clear S' S3 S2 b1 b2 snc gsc gsf
          have b1 := qkC S4.out 2 rfl 1 rfl
          have b2 := qkC S4.out 2 rfl 2 rfl
          have iic := qkC S4.out 5 rfl 0 rfl
          have sbc := qkC S4.out 6 rfl 0 rfl
          have hln2 := hln.out
          refine wpIn_region_list (by kernel_rfl) (fun _ _ h => h) ?_
          go_wp2_with (at_builtin; refine wpList_pushS rfl _ _ 174 rfl (S4.out.alloc 173 [.int .i64 (d : Int),.int .i64 (i : Int),.int .i64 ye]) 8 rfl Tryz.underlying174 _ 24 psInfo rfl (by decide) rfl (⟨(d : Int),(i : Int),ye⟩ : Ps) _ rfl rfl (fun j u hj => (BlkAt.cell (BlkAt.new _ _ _) j).trans hj) (psOne _) (by omega) (by decide) ?_)
          intro A3' c3' w7 S5 _
          have S6 : Hid (Sep W0.heap.size W0 ([eL,eD,eBlk bx 76 [.int .i64 ys,.int .i64 ye,.int .i64 (d : Int)],eBlk bs 3 [.int .i64 (s : Int)],eBlk gx 140 [.slice A1 al.length c1,.int .i64 (N : Int),.slice A2 mr.length c2,.slice A3 ed.length c3,.slice (some ⟨g0,0,none⟩) (N + 1) (N + 1)],eBlk ii 3 [.int .i64 (i : Int)],eBlk sb 174 [.slice AQ' fs'.length cQ'],eOwn Ps.cells 3 173 (fs' ++ [(⟨(d : Int),(i : Int),ye⟩ : Ps)]) (.slice A3' (fs'.length + 1) c3'),eBlk sn 133 [.slice (some ⟨gs,0,none⟩) N N],eBlk gs 4 (mkB N fun t => inS (fs' ++ [(⟨(d : Int),(i : Int),ye⟩ : Ps)]) (t : Int)),eBlk gg 140 [.slice A1 al.length c1,.int .i64 (N : Int),.slice A2 mr.length c2,.slice A3 ed.length c3,.slice (some ⟨g0,0,none⟩) (N + 1) (N + 1)],eBlk pb 143 [.func (.func gp) #[] lbp],eBlk g0 3 (mkI (N + 1) fun j => (fstV ed j : Int)),eKeep w W0.heap.size g0] ++ mksE Ds) w7) := S5.drop1
          clear S5 b1 b2 iic sbc
          have sbc := qkC S6.out 6 rfl 0 rfl
          have sbf := BlkAt.free (S6.out.get 6 rfl) 0
          have S7 : Hid (Sep W0.heap.size W0 ([eL,eD,eBlk bx 76 [.int .i64 ys,.int .i64 ye,.int .i64 (d : Int)],eBlk bs 3 [.int .i64 (s : Int)],eBlk gx 140 [.slice A1 al.length c1,.int .i64 (N : Int),.slice A2 mr.length c2,.slice A3 ed.length c3,.slice (some ⟨g0,0,none⟩) (N + 1) (N + 1)],eBlk ii 3 [.int .i64 (i : Int)],eBlk sb 174 [.slice A3' (fs' ++ [(⟨(d : Int),(i : Int),ye⟩ : Ps)]).length c3'],eOwn Ps.cells 3 173 (fs' ++ [(⟨(d : Int),(i : Int),ye⟩ : Ps)]) (.slice A3' (fs' ++ [(⟨(d : Int),(i : Int),ye⟩ : Ps)]).length c3'),eBlk sn 133 [.slice (some ⟨gs,0,none⟩) N N],eBlk gs 4 (mkB N fun t => inS (fs' ++ [(⟨(d : Int),(i : Int),ye⟩ : Ps)]) (t : Int)),eBlk gg 140 [.slice A1 al.length c1,.int .i64 (N : Int),.slice A2 mr.length c2,.slice A3 ed.length c3,.slice (some ⟨g0,0,none⟩) (N + 1) (N + 1)],eBlk pb 143 [.func (.func gp) #[] lbp],eBlk g0 3 (mkI (N + 1) fun j => (fstV ed j : Int)),eKeep w W0.heap.size g0] ++ mksE Ds) (w7.setCell ⟨sb,0,none⟩ (.slice A3' (fs'.length + 1) c3'))) := by
           have h := S6.out.set 6 rfl 0 (.slice A3' (fs'.length + 1) c3')
           rw [show (fs' ++ [(⟨(d : Int),(i : Int),ye⟩ : Ps)]).length = fs'.length + 1 by simp]
           exact h
          go_wp2_with fail
          gi_wp2
          exact ⟨_,(hRR.out _ _).2 ⟨(fs' ++ [(⟨(d : Int),(i : Int),ye⟩ : Ps)]),ws2,A3',c3',B3.out,FS2.out FS'.out,rfl⟩,S7.out.drop3⟩
      · clear S13 PI PI2 S12
        rintro D t es1 W hD hes SW
        obtain ⟨fs',ws',AQ',cQ',B,FS',rfl⟩ := (hRR.out _ _).1 hes
        clear hes
        subst hD
        have B2 : Hid (PInv ⟨al,(N : Int),mr,ed⟩ pm s0 wt (i + 1) 0 (i + 1) fs' ws') := B.out.fin HR.out FS'.out rfl
        have S1 : Hid (Sep W0.heap.size W0 ([eBlk ii 3 [.int .i64 (i : Int)],eBlk sb 174 [.slice AQ' fs'.length cQ'],eOwn Ps.cells 3 173 fs' (.slice AQ' fs'.length cQ'),eBlk sn 133 [.slice (some ⟨gs,0,none⟩) N N],eBlk gs 4 (mkB N fun t => inS fs' (t : Int)),eBlk gg 140 [.slice A1 al.length c1,.int .i64 (N : Int),.slice A2 mr.length c2,.slice A3 ed.length c3,.slice (some ⟨g0,0,none⟩) (N + 1) (N + 1)],eBlk pb 143 [.func (.func gp) #[] lbp],eBlk g0 3 (mkI (N + 1) fun j => (fstV ed j : Int)),eKeep w W0.heap.size g0] ++ mksE (D :: Ds)) W) := (Sep.marked SW).drop1.drop1
        clear SW B hxz
        have hif : i + 1 ≤ fs'.length := (List.getElem?_eq_some_iff.1 FS'.out).1
        have hfN := LB.out _ _ _ _ _ B2.out
        have ci := BlkAt.cell (S1.out.get 0 rfl) 0
        simp only [List.getElem?_cons_zero] at ci
        change Exit.inBlock 4 _ _ { tmps := _,defers := mksD (D :: Ds) } W
        obtain ⟨i2,hi2⟩ : ∃ g,g = W.heap.size := ⟨_,rfl⟩
        go_upto_region 6 with fail
        rw [← hi2]
        refine wp_world (fun V => Sep W0.heap.size W0 ([eBlk i2 3 [.int .i64 (i : Int)],eBlk sb 174 [.slice AQ' fs'.length cQ'],eOwn Ps.cells 3 173 fs' (.slice AQ' fs'.length cQ'),eBlk sn 133 [.slice (some ⟨gs,0,none⟩) N N],eBlk gs 4 (mkB N fun t => inS fs' (t : Int)),eBlk gg 140 [.slice A1 al.length c1,.int .i64 (N : Int),.slice A2 mr.length c2,.slice A3 ed.length c3,.slice (some ⟨g0,0,none⟩) (N + 1) (N + 1)],eBlk pb 143 [.func (.func gp) #[] lbp],eBlk g0 3 (mkI (N + 1) fun j => (fstV ed j : Int)),eKeep w W0.heap.size g0] ++ mksE (D :: Ds)) V) (S1.out.alloc' 3 [.int .i64 (i : Int)] rfl hi2).drop2 fun W2 S' => ?_
        have S2 := Lib.hid S'
        clear S' S1 ci hi2
        have ci := BlkAt.cell (S2.out.get 0 rfl) 0
        have cf := BlkAt.free (S2.out.get 0 rfl) 0
        simp only [List.getElem?_cons_zero] at ci
        have hwr : IntKind.i64.wrap ((i : Int) + 1) = (i : Int) + 1 := IntWalk.i64_in _ (by omega)
        have e1 : ((i : Int) + 1) = ((i + 1 : Nat) : Int) := by omega
        have S3 : Hid (Sep W0.heap.size W0 ([eBlk i2 3 [.int .i64 ((i + 1 : Nat) : Int)],eBlk sb 174 [.slice AQ' fs'.length cQ'],eOwn Ps.cells 3 173 fs' (.slice AQ' fs'.length cQ'),eBlk sn 133 [.slice (some ⟨gs,0,none⟩) N N],eBlk gs 4 (mkB N fun t => inS fs' (t : Int)),eBlk gg 140 [.slice A1 al.length c1,.int .i64 (N : Int),.slice A2 mr.length c2,.slice A3 ed.length c3,.slice (some ⟨g0,0,none⟩) (N + 1) (N + 1)],eBlk pb 143 [.func (.func gp) #[] lbp],eBlk g0 3 (mkI (N + 1) fun j => (fstV ed j : Int)),eKeep w W0.heap.size g0] ++ mksE (D :: Ds)) (W2.setCell ⟨i2,0,none⟩ (.int .i64 ((i : Int) + 1)))) := by
         have h := S2.out.set 0 rfl 0 (.int .i64 ((i : Int) + 1))
         rw [← e1]
         exact h
        have hbx : boxN (W2.setCell ⟨i2,0,none⟩ (.int .i64 ((i : Int) + 1))) (.pointer (some ⟨i2,0,none⟩)) = i + 1 := boxN_of (k := .i64) (BlkAt.cell (S3.out.get 0 rfl) 0)
        have HBX := Lib.hid hbx
        clear S2 hbx
        have E1 := Lib.hid e1
        clear e1
        go_wp2_with fail
        refine ⟨(hLI.out _ _).2 ⟨i + 1,fs',ws',AQ',cQ',i2,D :: Ds,⟨hif,B2.out,S3.out⟩,fr_of (fun u => #[u 0,u 1,.func (.func gw) #[] lbw,u 3,.pointer (some ⟨gg,0,none⟩),u 5,u 6,.pointer (some ⟨pb,0,none⟩),u 8,u 9,.pointer (some ⟨sb,0,none⟩),.pointer (some ⟨sn,0,none⟩),.pointer (some ⟨i2,0,none⟩),u 13,u 14,u 15,u 16,u 17,u 18,u 19,u 20,u 21,u 22,u 23,u 24,u 25,u 26,u 27,u 28,u 29,u 30,u 31,u 32,u 33,u 34,u 35,u 36,u 37,u 38,u 39,u 40,u 41,u 42,u 43,u 44,u 45,u 46,u 47,u 48,u 49,u 50,u 51,u 52,u 53,u 54,u 55,u 56,u 57,u 58,u 59,u 60,u 61,u 62,u 63,u 64,u 65,u 66,u 67,u 68,u 69,u 70,u 71,u 72,u 73,u 74,u 75,u 76,u 77,u 78,u 79,u 80,u 81,u 82,u 83,u 84,u 85,u 86,u 87,u 88,u 89,u 90,u 91,u 92,u 93,u 94]) rfl⟩,?_⟩
        show N + 1 - boxN _ (.pointer (some ⟨i2,0,none⟩)) < N + 1 - boxN wr (.pointer (some ⟨ii,0,none⟩))
        rw [HBX.out,HB0.out]
        omega
      · intro D c es1 W h
        exact h.elim
   · obtain rfl : i = fs.length := by omega
     go_wp2_with fail
     refine ret_marks Ds S.out fun w' S5 => ?_
     have BK := HG.out.kept S5 (i := 7) (j := 8) rfl rfl
     refine ⟨.tuple #[.slice none 0 0,.bool false],by simp [results,Tryz.results78,go_sem],?_⟩
     exact ⟨none,0,[],false,rfl,SlAt.nil,BK,.inr ⟨rfl,rfl,PI.out.none_ HR.out⟩,by simp⟩
end
end Go.Proofs.YtimdepdbcdbikaaGreat
