/-
  What the row leans on.
-/
import Derived.Test.YtimdepdbcdbikaaGreatEpx01
import Derived.Test.YtimdepdbcdbikaaGreatBas03
import Derived.Test.YtimdepdbcdbikaaGreatBas17
import Derived.BigQuiet
import Derived.Shelf.SortM.Plain
import Derived.Shelf.SortM.SortNone
import Derived.Sort.OwnSortedInts
import Derived.Test.YtimdepdbcdbikaaGreatBas19
import Derived.Test.YtimdepdbcdbikaaGreatBas21
import Derived.Test.YtimdepdbcdbikaaGreatBas04
import Derived.Test.YtimdepdbcdbikaaGreatBas20
set_option linter.unusedSimpArgs false
set_option linter.unusedVariables false
namespace Go.Proofs.YtimdepdbcdbikaaGreat
open Go.RowKit
set_option maxRecDepth 100000
open Go.RowKit Go.Shelf
def laysSort_ren : Go.Shelf.Ren := ⟨fun | 5 => 111 | 8 => 119 | 7 => 118 | 19 => 133 | 20 => 134 | 10 => 125 | 11 => 126 | 12 => 127 | 13 => 128 | 14 => 129 | 15 => 130 | 16 => 70 | 17 => 131 | 18 => 132 | 30 => 135 | 31 => 136 | 32 => 137 | 33 => 138 | 34 => 139 | 35 => 98 | 40 => 140 | n => n,fun | 23 => 31 | 25 => 3 | 3 => 3 | 32 => 136 | 22 => 31 | 0 => 0 | 44 => 189 | 46 => 201 | 4 => 4 | 36 => 194 | 35 => 193 | 41 => 82 | 5 => 5 | 9 => 9 | 53 => 202 | 57 => 206 | 63 => 208 | 64 => 126 | n => n,fun | n => n⟩
theorem laysSort : Go.Proofs.SlLaysM.n5 Tryz.prog laysSort_ren where
 mixed := by kernel_rfl
 f5 := ⟨"slices.Sort[[]int,int]", by decide, Tryz.func111.trans (congrArg some (by kernel_rfl))⟩
 f7 := ⟨"slices.pdqsortOrdered[int]", by decide, Tryz.func118.trans (congrArg some (by kernel_rfl))⟩
 f8 := Tryz.func119.trans (congrArg some (by kernel_rfl))
 f10 := ⟨"slices.insertionSortOrdered[int]", by decide, Tryz.func125.trans (congrArg some (by kernel_rfl))⟩
 f11 := ⟨"slices.heapSortOrdered[int]", by decide, Tryz.func126.trans (congrArg some (by kernel_rfl))⟩
 f12 := ⟨"slices.breakPatternsOrdered[int]", by decide, Tryz.func127.trans (congrArg some (by kernel_rfl))⟩
 f13 := ⟨"slices.choosePivotOrdered[int]", by decide, Tryz.func128.trans (congrArg some (by kernel_rfl))⟩
 f14 := ⟨"slices.reverseRangeOrdered[int]", by decide, Tryz.func129.trans (congrArg some (by kernel_rfl))⟩
 f15 := ⟨"slices.partialInsertionSortOrdered[int]", by decide, Tryz.func130.trans (congrArg some (by kernel_rfl))⟩
 f16 := ⟨"cmp.Less[int]", by decide, Tryz.func70.trans (congrArg some (by kernel_rfl))⟩
 f17 := ⟨"slices.partitionEqualOrdered[int]", by decide, Tryz.func131.trans (congrArg some (by kernel_rfl))⟩
 f18 := ⟨"slices.partitionOrdered[int]", by decide, Tryz.func132.trans (congrArg some (by kernel_rfl))⟩
 f19 := Tryz.func133.trans (congrArg some (by kernel_rfl))
 f20 := Tryz.func134.trans (congrArg some (by kernel_rfl))
 f30 := ⟨"slices.siftDownOrdered[int]", by decide, Tryz.func135.trans (congrArg some (by kernel_rfl))⟩
 f31 := Tryz.func136.trans (congrArg some (by kernel_rfl))
 f32 := Tryz.func137.trans (congrArg some (by kernel_rfl))
 f33 := ⟨"slices.medianAdjacentOrdered[int]", by decide, Tryz.func138.trans (congrArg some (by kernel_rfl))⟩
 f34 := ⟨"slices.medianOrdered[int]", by decide, Tryz.func139.trans (congrArg some (by kernel_rfl))⟩
 f35 := ⟨"cmp.isNaN[int]", by decide, Tryz.func98.trans (congrArg some (by kernel_rfl))⟩
 f40 := ⟨"slices.order2Ordered[int]", by decide, Tryz.func140.trans (congrArg some (by kernel_rfl))⟩
 t0 := Tryz.underlying0
 a0 := Tryz.isAgg0
 z0 := Tryz.sizeOf0
 v0 := Tryz.zeroValue0
 t3 := Tryz.underlying3
 a3 := Tryz.isAgg3
 z3 := Tryz.sizeOf3
 v3 := Tryz.zeroValue3
 t4 := Tryz.underlying4
 a4 := Tryz.isAgg4
 z4 := Tryz.sizeOf4
 v4 := Tryz.zeroValue4
 t5 := Tryz.underlying5
 a5 := Tryz.isAgg5
 z5 := Tryz.sizeOf5
 v5 := Tryz.zeroValue5
 t9 := Tryz.underlying9
 a9 := Tryz.isAgg9
 z9 := Tryz.sizeOf9
 v9 := Tryz.zeroValue9
 t22 := Tryz.underlying31
 a22 := Tryz.isAgg31
 z22 := Tryz.sizeOf31
 v22 := Tryz.zeroValue31
 t23 := Tryz.underlying31
 a23 := Tryz.isAgg31
 z23 := Tryz.sizeOf31
 v23 := Tryz.zeroValue31
 t25 := Tryz.underlying3
 a25 := Tryz.isAgg3
 z25 := Tryz.sizeOf3
 v25 := Tryz.zeroValue3
 t32 := Tryz.underlying136
 a32 := Tryz.isAgg136
 z32 := Tryz.sizeOf136
 v32 := Tryz.zeroValue136
 t35 := Tryz.underlying193
 a35 := Tryz.isAgg193
 z35 := Tryz.sizeOf193
 v35 := Tryz.zeroValue193
 t36 := Tryz.underlying194
 a36 := Tryz.isAgg194
 z36 := Tryz.sizeOf194
 v36 := Tryz.zeroValue194
 t41 := Tryz.underlying82
 a41 := Tryz.isAgg82
 z41 := Tryz.sizeOf82
 v41 := Tryz.zeroValue82
 t44 := Tryz.underlying189
 a44 := Tryz.isAgg189
 z44 := Tryz.sizeOf189
 v44 := Tryz.zeroValue189
 t46 := Tryz.underlying201
 a46 := Tryz.isAgg201
 z46 := Tryz.sizeOf201
 v46 := Tryz.zeroValue201
 t53 := Tryz.underlying202
 a53 := Tryz.isAgg202
 z53 := Tryz.sizeOf202
 v53 := Tryz.zeroValue202
 t57 := Tryz.underlying206
 a57 := Tryz.isAgg206
 z57 := Tryz.sizeOf206
 v57 := Tryz.zeroValue206
 t63 := Tryz.underlying208
 a63 := Tryz.isAgg208
 z63 := Tryz.sizeOf208
 v63 := Tryz.zeroValue208
 t64 := Tryz.underlying126
 a64 := Tryz.isAgg126
 z64 := Tryz.sizeOf126
 v64 := Tryz.zeroValue126
def GivesSo (l : List Int) (v : Value) (w : World) (e : Ending) (w' : World) : Prop := e = .returned (.tuple #[]) ∧ OwnI 0 (sortV l) v w' ∧ Off v.ownBlock.toList w w'
theorem sort_c (A : Option Addr) (c : Nat) (l : List Int) (w : World) (h : OwnI 0 l (.slice A l.length c) w) (hl : l.length ≤ 1048577) :
 Calls Tryz.prog 111 #[.slice A l.length c] w (GivesSo l (.slice A l.length c) w) := by
 rcases h.2 with ⟨h1,h2⟩ | ⟨g,cap,cur,h1,hb,h3,h4,h5,h6,h7⟩
 · obtain rfl := List.eq_nil_of_length_eq_zero h2;refine (AnyM.slices_Sort_int_none laysSort A c w).mono ?_;rintro e w' ⟨rfl,rfl⟩;exact ⟨rfl,by rw [show sortV [] = [] from by simp [sortV]]; exact h,⟨rfl,rfl,rfl,Nat.le_refl _,fun _ _ _ => rfl⟩⟩
 · cases h1;have hg : g < w.heap.size := (Array.getElem?_eq_some_iff.1 h3).1;have h7' : cur.toList.take l.length = l.map (Value.int .i64) := by
    rw [Nat.mul_one] at h7;rw [h7]; exact flat_encI l
   refine (AnyM.slices_Sort_int laysSort g 0 c l w (Go.holds_of_blockI h3 h7') hg (by omega)).mono ?_;rintro e w' ⟨rfl,n,os,rfl⟩;refine ⟨rfl,?_,Off.grown (Go.grownBy_sortedI _)⟩;have := Go.ownsRow_sortedI (ss := l) (ts := sortV l) (n := n) (os := os) (base := 0) (cap := c) (sortV_len l) (Nat.zero_le _) h3 h4 h5 h6;show World.ownsRow _ _ _ _ _ _ _
   rw [show (sortV l).flatMap encI = (sortV l).map (Value.int .i64) from flat_encI _,sortV_len];exact this


def GivesAd (n0 : Nat) (w0 : World) (es : List Ent) (N sb b7 b8 : Nat) (l : List Int) (x : Int) (e : Ending) (w' : World) : Prop :=
 e = .returned (.tuple #[]) ∧ ∃ (A : Option Addr) (c : Nat),Hid (Sep n0 w0 (eBlk sb 4 (mkB N (fun s => decide ((s : Int) ∈ add1 l x))) :: eBlk b7 133 [.slice (some ⟨sb,0,none⟩) N N] :: eBlk b8 31 [.slice A (add1 l x).length c] :: eInts (add1 l x) (.slice A (add1 l x).length c) :: es) w')
set_option maxHeartbeats 2000000 in
theorem add_c {n0 : Nat} {w0 : World} {es : List Ent} (N sb b7 b8 : Nat) (l : List Int) (x : Int) (A : Option Addr) (c : Nat) (w : World) (S : Hid (Sep n0 w0 (eBlk sb 4 (mkB N (fun s => decide ((s : Int) ∈ l))) :: eBlk b7 133 [.slice (some ⟨sb,0,none⟩) N N] :: eBlk b8 31 [.slice A l.length c] :: eInts l (.slice A l.length c) :: es) w)) (hx : 0 ≤ x ∧ x < (N : Int)) (hl : l.length ≤ 1000000) :
 Calls Tryz.prog 110 #[.int .i64 x,.pointer (some ⟨b7,0,none⟩),.pointer (some ⟨b8,0,none⟩)] w (GivesAd n0 w0 es N sb b7 b8 l x) := by
 obtain ⟨s,rfl⟩ := Int.eq_ofNat_of_zero_le hx.1;have hsn : s < N := by omega
 clear hx;have gc := (BlkAt.cell (S.out.get 0 rfl) s).trans (mkB_get hsn);have gf := BlkAt.free (S.out.get 0 rfl) s;have g7 := qkC S.out 1 rfl 0 rfl;have g8 := qkC S.out 2 rfl 0 rfl;obtain ⟨u,hu⟩ : ∃ u,u = decide ((s : Int) ∈ l) := ⟨_,rfl⟩;rw [← hu] at gc;have HU := Lib.hid hu;clear hu;go_enter Tryz.func110,Tryz.ntmps110
 cases u
 · have hin : ¬ (s : Int) ∈ l := of_decide_eq_false HU.out.symm;have HA : Hid (add1 l (s : Int) = l ++ [(s : Int)]) := if_neg hin;clear hin HU;obtain ⟨fl,hfl⟩ : ∃ f : Nat → Bool,f = fun t : Nat => decide ((t : Int) ∈ l ++ [(s : Int)]) := ⟨_,rfl⟩
   have HFL := Lib.hid hfl;have S2 : Hid (Sep n0 w0 (eBlk sb 4 (mkB N fl) :: eBlk b7 133 [.slice (some ⟨sb,0,none⟩) N N] :: eBlk b8 31 [.slice A l.length c] :: eInts l (.slice A l.length c) :: es) (w.setCell ⟨sb,s,none⟩ (.bool true))) := by
    have h := S.out.set 0 rfl s (.bool true);rw [mkB_set] at h;have e : (mkB N fun t => decide (t = s) || decide ((t : Int) ∈ l)) = mkB N fun t => decide ((t : Int) ∈ l ++ [(s : Int)]) := mkB_congr fun t _ => by
     by_cases g : t = s
     · subst g; simp
     · have : ¬ (t : Int) = (s : Int) := by omega
       simp [g,this]
    rw [e,← hfl] at h;exact h
   clear hfl;clear S;go_upto_region 2 with fail
   refine wp_world (fun V => Hid (Sep n0 w0 (eBlk sb 4 (mkB N fl) :: eBlk b7 133 [.slice (some ⟨sb,0,none⟩) N N] :: eBlk b8 31 [.slice A l.length c] :: eInts l (.slice A l.length c) :: es) V)) S2 fun V S3 => ?_;clear S2 gc gf g7 g8;have k8 := qkC S3.out 2 rfl 0 rfl;go_wp2_with (at_builtin; refine wpList_pushS rfl _ _ 31 rfl (S3.out.alloc 3 [.int .i64 ↑s]) 4 rfl Tryz.underlying31 _ 8 intInfo rfl (by decide) rfl (s : Int) _ rfl rfl (one_cell _ _ [_] _ rfl) (encI_one _) (by omega) (by decide) ?_)
   intro A' c' w6 S9 _;have S10 := Lib.hid S9.drop1;clear S9 S3 k8;have k8f := BlkAt.free (S10.out.get 2 rfl) 0;have k8 := BlkAt.cell (S10.out.get 2 rfl) 0;simp only [List.set_cons_zero,List.set_cons_succ,List.getElem?_cons_succ,List.getElem?_cons_zero] at k8;have S11 := Lib.hid (S10.out.set 2 rfl 0 (.slice A' (l.length + 1) c'));clear S10;go_wp2_with fail
   refine bodyPost_ret (v := .tuple #[]) (by simp [results,Tryz.results110,go_sem]) rfl ?_;refine ⟨rfl,A',c',?_⟩;rw [HA.out,show (l ++ [(s : Int)]).length = l.length + 1 by simp,← HFL.out];exact S11.out
 · have hin : (s : Int) ∈ l := of_decide_eq_true HU.out.symm;have HA : Hid (add1 l (s : Int) = l) := if_pos hin;clear hin HU;go_wp2_with fail
   refine bodyPost_ret (v := .tuple #[]) (by simp [results,Tryz.results110,go_sem]) rfl ?_;refine ⟨rfl,A,c,?_⟩;rw [HA.out];exact S.out
def GivesEs (R : List Int) (w : World) (e : Ending) (w' : World) : Prop := ∃ (A : Option Addr) (c : Nat),e = .returned (.slice A R.length c) ∧ Hid (OwnI w.heap.size R (.slice A R.length c) w') ∧ Below w.heap.size w w'
set_option maxHeartbeats 8000000 in
theorem reach_c (a : Au) (onto : List Int) (q : ObP) (AF : Option Addr) (cF : Nat) (from_ : List Int) (AV : Option Addr) (cV : Nat) (ev : List Int) (w : World) (hr : a.Right) (hO : ObAt w a onto q) (hF : IntsAt w AF from_) (hfr : ∀ x,x ∈ from_ → 0 ≤ x ∧ x < a.n) (hfl : from_.length ≤ 1000000) (hV : IntsAt w AV ev) (hvl : ev.length ≤ 140737488355328) (hel : a.ed.length ≤ 1000000) :
 Calls Tryz.prog 88 #[q.val a onto,.slice AF from_.length cF,.slice AV ev.length cV] w (GivesEs (rchV a.n.toNat a.ed ev from_) w) := by
 have HO := Lib.hid hO;have HF := Lib.hid hF;have HFR := Lib.hid hfr;have HV := Lib.hid hV;have n0 := hr.n0;have n1 := hr.n1;have HD : Hid (∀ y,y ∈ a.ed → 0 ≤ y.dst ∧ y.dst < (a.n.toNat : Int)) := fun x hx => by
  obtain ⟨k,hk,hkx⟩ := List.mem_iff_getElem.1 hx;have := hr.ed k hk x (by rw [← hkx]; exact List.getElem?_eq_getElem hk);exact ⟨this.2.2.1,by rw [Int.toNat_of_nonneg n0]; exact this.2.2.2.1⟩
 clear hr hO hF hfr hV;obtain ⟨al,n,mr,ed⟩ := a;dsimp only at *;obtain ⟨N,rfl⟩ := Int.eq_ofNat_of_zero_le n0;have hmk := make_run (P := Tryz.prog) 133 4 (.bool false) 1 Tryz.underlying133 boolInfo rfl N (by omega) (by omega);simp only [Int.toNat_natCast] at HD ⊢;clear n0;go_enter Tryz.func88,Tryz.ntmps88
 obtain ⟨tb,htb⟩ : ∃ g,g = w.heap.size := ⟨_,rfl⟩;go_upto_region 1 with fail
 rw [← htb];refine wp_world (fun W => Sep w.heap.size w [eBlk tb 118 [.slice (some ⟨q.bo,0,none⟩) N N,.slice q.AK (keptV al onto).length q.cK,.slice q.AE (erasV al onto).length q.cE,.slice q.AM mr.length q.cM]] W) ((Sep.here w).alloc' _ [_,_,_,_] rfl htb) fun W S => ?_;have S0 := Lib.hid S;clear S htb;have t0 := BlkAt.cell (S0.out.get 0 rfl) 0; simp only [List.getElem?_cons_succ,List.getElem?_cons_zero] at t0;obtain ⟨sb,hsb⟩ : ∃ g,g = W.heap.size := ⟨_,rfl⟩;obtain ⟨b7,hb7⟩ : ∃ g,g = sb + 1 := ⟨_,rfl⟩;obtain ⟨b8,hb8⟩ : ∃ g,g = b7 + 1 := ⟨_,rfl⟩;go_upto_region 3 with fail
 rw [← hsb];rw [← hb7];rw [← hb8];refine wp_world (fun V => Sep w.heap.size w [eBlk sb 4 (mkB N (fun s => decide ((s : Int) ∈ ([] : List Int)))),eBlk b7 133 [.slice (some ⟨sb,0,none⟩) N N],eBlk b8 31 [.slice none 0 0],eInts ([] : List Int) (.slice none 0 0),eBlk tb 118 [.slice (some ⟨q.bo,0,none⟩) N N,.slice q.AK (keptV al onto).length q.cK,.slice q.AE (erasV al onto).length q.cE,.slice q.AM mr.length q.cM]] V) ?_ fun V S => ?_
 · have h := (((S0.out.alloc' 4 (mkB N fun _ => false) (o := .cells (List.replicate N (.bool false)).toArray 4) (by rw [← mkB_rep]) hsb).alloc' 133 [.slice (some ⟨sb,0,none⟩) N N] (g := b7) rfl (by simp; omega)).alloc' 31 [.slice none 0 0] (g := b8) rfl (by simp; omega)).nilOwn encI 1 3;have h2 := h.pick [3,2,1,0,4] (by decide);simpa using h2
 have S1 := Lib.hid S;clear S S0 t0 hmk hsb hb7 hb8;go_wp2_with fail
 go_loopw [22] (fun i wr => ∃ (k : Nat) (A : Option Addr) (c : Nat),k ≤ from_.length ∧ i = .int .i64 ↑k ∧ (SepW w [eBlk sb 4 (mkB N (fun s => decide ((s : Int) ∈ (preV from_ k)))),eBlk b7 133 [.slice (some ⟨sb,0,none⟩) N N],eBlk b8 31 [.slice A (preV from_ k).length c],eInts (preV from_ k) (.slice A (preV from_ k).length c),eBlk tb 118 [.slice (some ⟨q.bo,0,none⟩) N N,.slice q.AK (keptV al onto).length q.cK,.slice q.AE (erasV al onto).length q.cE,.slice q.AM mr.length q.cM]] wr)) (fun i _ => from_.length - (intOf i).toNat)
 case atStart => exact ⟨0,none,0,by omega,rfl,S1.out⟩
 case round =>
  clear S1;obtain ⟨k,A,c,hk,rfl,S⟩ := hrel;by_cases hlt : k < from_.length
  · obtain ⟨b,off,x,rfl,hb,hx,cx⟩ := IntsAt.at (HF.out.below IntE.stays S.out.below) hlt;have hxr := HFR.out x (List.mem_of_getElem? hx);have HX := Lib.hid hx;have hpl : (preV from_ k).length ≤ 1000000 := by
     have := nd_len (n := N) (preV_nd from_ k) fun y hy => HFR.out y (List.mem_of_mem_take ((preV_mem k y).1 hy));omega
    clear hx;go_wp2_with fail
    refine (add_c N sb b7 b8 (preV from_ k) x A c wr S hxr hpl).mono ?_;rintro e v2 ⟨rfl,A',c',S2⟩;rw [← preV_next HX.out] at S2;clear S cx;go_wp2_with fail
    go_roundw
    case rel => exact ⟨k + 1,A',c',by omega,by go_num,S2.out⟩
    case measure => simp [intOf]; omega
  · obtain rfl : k = from_.length := by omega
    have RS : Hid (RI N ed ev from_ 0 (preV from_ from_.length)) := RI.start HFR.out;go_wp2_with fail
    go_loopw [12] (fun vi wr => ∃ (i : Nat) (l : List Int) (A : Option Addr) (c : Nat),vi = .int .i64 ↑i ∧ i ≤ l.length ∧ Hid (RI N ed ev from_ i l) ∧ (SepW w [eBlk sb 4 (mkB N (fun s => decide ((s : Int) ∈ l))),eBlk b7 133 [.slice (some ⟨sb,0,none⟩) N N],eBlk b8 31 [.slice A l.length c],eInts l (.slice A l.length c),eBlk tb 118 [.slice (some ⟨q.bo,0,none⟩) N N,.slice q.AK (keptV al onto).length q.cK,.slice q.AE (erasV al onto).length q.cE,.slice q.AM mr.length q.cM]] wr)) (fun vi _ => N - (intOf vi).toNat)
    case atStart => exact ⟨0,_,A,c,rfl,Nat.zero_le _,RS.out,S.out⟩
    case round =>
     clear S RS hk hlt;obtain ⟨i,l,A,c,rfl,hil,RH,S⟩ := hrel;have hlN := nd_len RH.out.nd RH.out.b;have g8 := BlkAt.cell (S.out.get 2 rfl) 0; simp only [List.getElem?_cons_succ,List.getElem?_cons_zero] at g8;by_cases hlt : i < l.length
     · obtain ⟨bl,ol,s0,hA,hb,hs,cs⟩ := IntsAt.at (S.out.ints 3 rfl) hlt;have hsr := RH.out.b s0 (List.mem_of_getElem? hs);obtain ⟨s,rfl⟩ := Int.eq_ofNat_of_zero_le hsr.1;have hsN : s < N := by omega
       have RJ0 : Hid (RJ N ed ev from_ i 0 (s : Int) l) := RH.out.row hs;clear RH hs hsr;subst hA;have hrow := RowsAt.at HO.out.r (i := s) (by simp [outs]; exact hsN);obtain ⟨bo,oo,row,AR,cR,hbo,hbl,hrw,crow0,hrl,hre⟩ := hrow;have hro : row = outOf ed s := by simp [outs,hsN] at hrw; exact hrw.symm
       subst hro;have hbo2 : bo = q.bo ∧ oo = 0 := by simp at hbo; exact ⟨hbo.1.symm,hbo.2.symm⟩
       obtain ⟨rfl,rfl⟩ := hbo2;rw [Nat.zero_add] at crow0;have crow := (S.out.below.cell (p := ⟨q.bo,s,none⟩) hbl).trans crow0;have HRE := Lib.hid hre;have hrl2 : (outOf ed s).length ≤ 1000000 := Nat.le_trans (outOf_len ed s) hel;have t0 := BlkAt.cell (S.out.get 4 rfl) 0; simp only [List.getElem?_cons_succ,List.getElem?_cons_zero] at t0;have iw : IntKind.i64.wrap ((i : Int) + 1) = (i : Int) + 1 := IntWalk.i64_in _ (by omega);clear hbo hrw hre hrl hb hbl crow0;go_wp2_with fail
       go_quiet (fail)
       go_wp2_with fail
       go_loopw [45] (fun vj wx => ∃ (j : Nat) (l : List Int) (A : Option Addr) (c : Nat),vj = .int .i64 ↑j ∧ j ≤ (outOf ed s).length ∧ Hid (RJ N ed ev from_ i j (s : Int) l) ∧ (SepW w [eBlk sb 4 (mkB N (fun s => decide ((s : Int) ∈ l))),eBlk b7 133 [.slice (some ⟨sb,0,none⟩) N N],eBlk b8 31 [.slice A l.length c],eInts l (.slice A l.length c),eBlk tb 118 [.slice (some ⟨q.bo,0,none⟩) N N,.slice q.AK (keptV al onto).length q.cK,.slice q.AE (erasV al onto).length q.cE,.slice q.AM mr.length q.cM]] wx)) (fun vj _ => (outOf ed s).length - (intOf vj).toNat)
       case atStart => exact ⟨0,l,_,c,rfl,Nat.zero_le _,RJ0.out,S.out.draws _⟩
       case round =>
        clear S RJ0 cs crow t0 g8 hlN hlt hil;obtain ⟨j,l,A,c,rfl,hj,RH,S⟩ := hrel;have hlN := nd_len RH.out.nd RH.out.b;have hil := (List.getElem?_eq_some_iff.1 RH.out.a).1;by_cases hlt : j < (outOf ed s).length
        · obtain ⟨be,oe,x,hAe,hb,hx,e0,e1,e2⟩ := EdsAt.at (HRE.out.below EdE.stays S.out.below) hlt;subst hAe;have hm := mem_outOf.1 (List.mem_of_getElem? hx);have hdr := HD.out x hm.1;obtain ⟨xs,xev,xdst⟩ := x;obtain rfl : xs = (s : Int) := hm.2;have HX : Hid ((outOf ed (Int.toNat (s : Int)))[j]? = some ⟨(s : Int),xev,xdst⟩) := hx;dsimp only at e0 e1 e2 hdr;obtain ⟨xb,hxb⟩ : ∃ g,g = wr.heap.size := ⟨_,rfl⟩;clear hx hm hb;go_upto_region 15 with fail
          rw [← hxb];refine wp_world (fun V => Sep w.heap.size w [eBlk sb 4 (mkB N (fun s => decide ((s : Int) ∈ l))),eBlk b7 133 [.slice (some ⟨sb,0,none⟩) N N],eBlk b8 31 [.slice A l.length c],eInts l (.slice A l.length c),eBlk tb 118 [.slice (some ⟨q.bo,0,none⟩) N N,.slice q.AK (keptV al onto).length q.cK,.slice q.AE (erasV al onto).length q.cE,.slice q.AM mr.length q.cM],eBlk xb 76 [.int .i64 ↑s,.int .i64 xev,.int .i64 xdst]] V) ((S.out.alloc' _ [_,_,_] rfl hxb).pick [1,2,3,4,5,0] (by decide)) fun V S' => ?_;have S2 := Lib.hid S';clear S S' hxb e0 e1 e2;have x1 := BlkAt.cell (S2.out.get 5 rfl) 1; have x2 := BlkAt.cell (S2.out.get 5 rfl) 2; simp only [List.getElem?_cons_succ,List.getElem?_cons_zero] at x1 x2;have CS := Lib.hid (containsV_c AV cV ev xev V (HV.out.below IntE.stays S2.out.below) hvl);go_wp2_with fail
          refine CS.out.mono ?_;intro e w1 hs;clear CS;rcases hs.no1 with ⟨rfl,hn,rfl⟩ | ⟨rfl,hn,rfl⟩
          · have RN : Hid (RJ N ed ev from_ i (j + 1) (s : Int) l) := RH.out.no HX.out hn.out;go_wp2_with fail
            go_roundw
            case rel => exact ⟨j + 1,l,A,c,by go_num,by omega,RN.out,S2.out.pick [0,1,2,3,4] (by decide)⟩
            case measure => simp [intOf]; omega
          · have RN : Hid (RJ N ed ev from_ i (j + 1) (s : Int) (add1 l xdst)) := RH.out.yes HX.out hn.out HD.out;go_wp2_with fail
            refine (add_c N sb b7 b8 l xdst A c V S2 hdr (by omega)).mono ?_;rintro e v2 ⟨rfl,A',c',S3⟩;clear S2 x1 x2;go_wp2_with fail
            go_roundw
            case rel => exact ⟨j + 1,add1 l xdst,A',c',by go_num,by omega,RN.out,S3.out.pick [0,1,2,3,4] (by decide)⟩
            case measure => simp [intOf]; omega
        · obtain rfl : j = (outOf ed s).length := by omega
          have RF : Hid (RI N ed ev from_ (i + 1) l) := RJ.fin (s := (s : Int)) RH.out;go_wp2_with fail
          go_roundw
          case rel => exact ⟨i + 1,l,A,c,by go_num,by omega,RF.out,S.out⟩
          case measure => simp [intOf]; omega
     · obtain rfl : i = l.length := by omega
       have HR : Hid (sortV l = rchV N ed ev from_) := RH.out.all;go_wp2_with fail
       refine (sort_c A c l wr (S.out.get 3 rfl) (by omega)).mono ?_;rintro e v2 ⟨rfl,ho,hf⟩;have S2 := Lib.hid (S.out.chg 3 rfl (eInts (sortV l) (.slice A l.length c)) hf ho (fun g hg => .inl hg));clear S ho hf g8;have g8 := BlkAt.cell (S2.out.get 2 rfl) 0; simp only [List.set_cons_zero,List.set_cons_succ,List.getElem?_cons_succ,List.getElem?_cons_zero] at g8;go_wp2_with fail
       go_ret
       have hl : l.length = (rchV N ed ev from_).length := by rw [← HR.out,sortV_len]
       have ho := S2.out.ownAt 3 rfl;rw [HR.out] at ho;generalize l.length = ll at hl ho ⊢;subst hl;exact ⟨A,c,rfl,ho,S2.out.below⟩
section
def hitJ (ed : List Ed) (est : List Int) (e : Int) (s : Nat) (j : Nat) : List Int := hitV ed est e ++ (((outOf ed s).take j).filter fun x => decide (x.ev = e)).map (·.dst)
section
variable {ed : List Ed} {est : List Int} {e : Int} {s j k : Nat} {x : Ed}
theorem hitJ_zero : hitJ ed est e s 0 = hitV ed est e := by simp [hitJ]
theorem take_snocE {l : List Ed} (h : l[j]? = some x) : l.take (j + 1) = l.take j ++ [x] := by rw [List.take_add_one,h]; rfl
theorem hitJ_yes (h : (outOf ed s)[j]? = some x) (he : x.ev = e) : hitJ ed est e s (j + 1) = hitJ ed est e s j ++ [x.dst] := by
 unfold hitJ
 rw [take_snocE h,List.filter_append,List.map_append];simp [he]
theorem hitJ_no (h : (outOf ed s)[j]? = some x) (he : ¬ x.ev = e) : hitJ ed est e s (j + 1) = hitJ ed est e s j := by
 unfold hitJ
 rw [take_snocE h,List.filter_append,List.map_append];simp [he]
theorem hitJ_fin (h : est[k]? = some (s : Int)) : hitJ ed (est.take k) e s (outOf ed s).length = hitV ed (est.take (k + 1)) e := by
 unfold hitJ hitV
 rw [take_snoc h,List.take_length,List.flatMap_append];simp
theorem hitV_len : ∀ (est : List Int),(hitV ed est e).length ≤ est.length * ed.length
 | [] => by simp [hitV]
 | s :: r => by
   have ih := hitV_len r;unfold hitV at ih ⊢
   rw [List.flatMap_cons,List.length_append,List.length_cons,Nat.succ_mul,List.length_map];have h1 := List.length_filter_le (fun x : Ed => decide (x.ev = e)) (outOf ed s.toNat);have h2 := outOf_len ed s.toNat;omega
theorem hitJ_len (hj : j ≤ ed.length) : (hitJ ed est e s j).length ≤ (est.length + 1) * ed.length := by
 have := hitV_len (ed := ed) (e := e) est;unfold hitJ
 rw [List.length_append,List.length_map,Nat.succ_mul];have h1 := List.length_filter_le (fun x : Ed => decide (x.ev = e)) ((outOf ed s).take j);have h2 : ((outOf ed s).take j).length ≤ j := List.length_take_le _ _;omega
end
set_option maxHeartbeats 8000000 in
theorem next_c (a : Au) (onto : List Int) (q : ObP) (AS : Option Addr) (cS : Nat) (est : List Int) (ev : Int) (w : World) (hr : a.Right) (hO : ObAt w a onto q) (hS : IntsAt w AS est) (hsr : ∀ x,x ∈ est → 0 ≤ x ∧ x < a.n) (hsl : est.length ≤ 100000) (hel : a.ed.length ≤ 1000000) (hsz : (est.length + 1) * a.ed.length ≤ 1000000) :
 Calls Tryz.prog 58 #[q.val a onto,.slice AS est.length cS,.int .i64 ev] w (GivesEs (nextP a.n.toNat a.ed (erasV a.al onto) est ev) w) := by
 have HS := Lib.hid hS;have HSR := Lib.hid hsr;have HSZ := Lib.hid hsz;have hel2 := rises_len (n := 32) hr.al.incr fun x hx => al_rg hr hx;have HD : Hid (∀ y,y ∈ a.ed → 0 ≤ y.dst ∧ y.dst < (a.n.toNat : Int)) := fun x hx => by
  obtain ⟨k,hk,hkx⟩ := List.mem_iff_getElem.1 hx;have := hr.ed k hk x (by rw [← hkx]; exact List.getElem?_eq_getElem hk);exact ⟨this.2.2.1,by rw [Int.toNat_of_nonneg hr.n0]; exact this.2.2.2.1⟩
 have HO := Lib.hid hO;have HR := Lib.hid hr;have n0 := hr.n0;have n1 := hr.n1;obtain ⟨al,n,mr,ed⟩ := a;dsimp only at *;obtain ⟨N,rfl⟩ := Int.eq_ofNat_of_zero_le n0;clear n0;simp only [Int.toNat_natCast] at HD ⊢;clear hr hO hS hsr hsz;go_enter Tryz.func58,Tryz.ntmps58
 obtain ⟨tb,htb⟩ : ∃ g,g = w.heap.size := ⟨_,rfl⟩;go_upto_region 1 with fail
 rw [← htb];refine wp_world (fun W => Sep w.heap.size w [eInts [] (.slice none 0 0),eBlk tb 118 [.slice (some ⟨q.bo,0,none⟩) N N,.slice q.AK (keptV al onto).length q.cK,.slice q.AE (erasV al onto).length q.cE,.slice q.AM mr.length q.cM]] W) (((Sep.here w).alloc' _ [_,_,_,_] rfl htb).nilOwn encI 1 3) fun W S => ?_;have S0 := Lib.hid S;clear S htb;go_wp2_with fail
 go_loopw [14,7] (fun i vl wr => ∃ (k : Nat) (l : List Int) (A : Option Addr) (c : Nat),k ≤ est.length ∧ i = .int .i64 ↑k ∧ vl = .slice A l.length c ∧ Hid (l = hitV ed (est.take k) ev) ∧ (SepW w [eInts l (.slice A l.length c),eBlk tb 118 [.slice (some ⟨q.bo,0,none⟩) N N,.slice q.AK (keptV al onto).length q.cK,.slice q.AE (erasV al onto).length q.cE,.slice q.AM mr.length q.cM]] wr)) (fun i _ _ => est.length - (intOf i).toNat)
 case atStart => exact ⟨0,[],none,0,by omega,rfl,rfl,rfl,S0.out⟩
 case round =>
  clear S0;obtain ⟨k,l,A,c,hk,rfl,rfl,HL,S⟩ := hrel;by_cases hlt : k < est.length
  · obtain ⟨bl,ol,s0,hA,hb,hs,cs⟩ := IntsAt.at (HS.out.below IntE.stays S.out.below) hlt;have hsr := HSR.out s0 (List.mem_of_getElem? hs);obtain ⟨s,rfl⟩ := Int.eq_ofNat_of_zero_le hsr.1;have hsN : s < N := by omega
    have HX0 := Lib.hid hs;clear hs hsr;subst hA;have hrow := RowsAt.at HO.out.r (i := s) (by simp [outs]; exact hsN);obtain ⟨bo,oo,row,AR,cR,hbo,hbl,hrw,crow0,hrl,hre⟩ := hrow;have hro : row = outOf ed s := by simp [outs,hsN] at hrw; exact hrw.symm
    subst hro;have hbo2 : bo = q.bo ∧ oo = 0 := by simp at hbo; exact ⟨hbo.1.symm,hbo.2.symm⟩
    obtain ⟨rfl,rfl⟩ := hbo2;rw [Nat.zero_add] at crow0;have crow := (S.out.below.cell (p := ⟨q.bo,s,none⟩) hbl).trans crow0;have HRE := Lib.hid hre;have hrl2 := outOf_len ed s;have t0 := BlkAt.cell (S.out.get 1 rfl) 0; simp only [List.getElem?_cons_succ,List.getElem?_cons_zero] at t0;clear hbo hrw hre hrl hb hbl crow0;go_wp2_with fail
    go_loopw [24,7] (fun vj vl wx => ∃ (j : Nat) (l : List Int) (A : Option Addr) (c : Nat),vj = .int .i64 ↑j ∧ vl = .slice A l.length c ∧ j ≤ (outOf ed s).length ∧ Hid (l = hitJ ed (est.take k) ev s j) ∧ (SepW w [eInts l (.slice A l.length c),eBlk tb 118 [.slice (some ⟨q.bo,0,none⟩) N N,.slice q.AK (keptV al onto).length q.cK,.slice q.AE (erasV al onto).length q.cE,.slice q.AM mr.length q.cM]] wx)) (fun vj _ _ => (outOf ed s).length - (intOf vj).toNat)
    case atStart => exact ⟨0,l,A,c,rfl,rfl,Nat.zero_le _,by rw [Hid,hitJ_zero]; exact HL.out,S.out⟩
    case round =>
     clear S HL cs crow t0;obtain ⟨j,l,A,c,rfl,rfl,hj,HL,S⟩ := hrel;have hll : l.length ≤ 1000000 := by
      rw [HL.out];refine Nat.le_trans (hitJ_len (by omega)) (Nat.le_trans (Nat.mul_le_mul_right _ ?_) HSZ.out);have := List.length_take_le k est;omega
     by_cases hlt : j < (outOf ed s).length
     · obtain ⟨be,oe,x,hAe,hb,hx,e0,e1,e2⟩ := EdsAt.at (HRE.out.below EdE.stays S.out.below) hlt;subst hAe;obtain ⟨xs,xev,xdst⟩ := x;have HX := Lib.hid hx;dsimp only at e0 e1 e2;clear hx hb;obtain ⟨xb,hxb⟩ : ∃ g,g = wr.heap.size := ⟨_,rfl⟩;go_upto_region 8 with fail
       rw [← hxb];refine wp_world (fun V => Sep w.heap.size w [eInts l (.slice A l.length c),eBlk tb 118 [.slice (some ⟨q.bo,0,none⟩) N N,.slice q.AK (keptV al onto).length q.cK,.slice q.AE (erasV al onto).length q.cE,.slice q.AM mr.length q.cM],eBlk xb 76 [.int .i64 xs,.int .i64 xev,.int .i64 xdst]] V) ((S.out.alloc' _ [_,_,_] rfl hxb).pick [1,2,0] (by decide)) fun V S' => ?_;have S2 := Lib.hid S';clear S S' hxb e0 e1 e2;have x1 := BlkAt.cell (S2.out.get 2 rfl) 1; have x2 := BlkAt.cell (S2.out.get 2 rfl) 2; simp only [List.getElem?_cons_succ,List.getElem?_cons_zero] at x1 x2;by_cases he : xev = ev
       · have hb : (xev == ev) = true := by simpa using he
         have HL2 : Hid (l ++ [xdst] = hitJ ed (est.take k) ev s (j + 1)) := by rw [Hid,hitJ_yes HX.out he,← HL.out]
         clear he;go_wp2_with (at_builtin; refine wpList_pushS rfl _ _ 31 rfl (S2.out.alloc 3 [.int .i64 xdst]) 1 rfl Tryz.underlying31 _ 8 intInfo rfl (by decide) rfl xdst _ rfl rfl (one_cell _ _ [_] _ rfl) (encI_one _) (by omega) (by decide) ?_)
         intro A' c' w6 S9 _;have S3 : (SepW w [eInts (l ++ [xdst]) (.slice A' (l ++ [xdst]).length c'),eBlk tb 118 [.slice (some ⟨q.bo,0,none⟩) N N,.slice q.AK (keptV al onto).length q.cK,.slice q.AE (erasV al onto).length q.cE,.slice q.AM mr.length q.cM]] w6) := by
          have h := S9.pick [1,2] (by decide);rw [show (l ++ [xdst]).length = l.length + 1 by simp];exact h
         clear S9 S2 x1 x2;go_wp2_with fail
         go_roundw
         case rel => exact ⟨j + 1,l ++ [xdst],A',c',by go_num,by simp,by omega,HL2.out,S3.out⟩
         case measure => simp [intOf]; omega
       · have hb : (xev == ev) = false := by simpa using he
         have HL2 : Hid (l = hitJ ed (est.take k) ev s (j + 1)) := by rw [Hid,hitJ_no HX.out he]; exact HL.out
         clear he;go_wp2_with fail
         go_roundw
         case rel => exact ⟨j + 1,l,A,c,by go_num,rfl,by omega,HL2.out,S2.out.pick [0,1] (by decide)⟩
         case measure => simp [intOf]; omega
     · obtain rfl : j = (outOf ed s).length := by omega
       have HL2 : Hid (l = hitV ed (est.take (k + 1)) ev) := by rw [Hid,← hitJ_fin HX0.out]; exact HL.out
       go_wp2_with fail
       go_roundw
       case rel => exact ⟨k + 1,l,A,c,by omega,by go_num,rfl,HL2.out,S.out⟩
       case measure => simp [intOf]; omega
  · obtain rfl : k = est.length := by omega
    have HL2 : Hid (l = hitV ed est ev) := by have := HL.out; rw [List.take_length] at this; exact this
    have hll : l.length ≤ 1000000 := by
     rw [HL2.out];refine Nat.le_trans (hitV_len est) (Nat.le_trans (Nat.mul_le_mul_right _ ?_) HSZ.out);omega
    have HLR : Hid (∀ x,x ∈ l → 0 ≤ x ∧ x < (N : Int)) := fun x hx => hitV_in HD.out (by rw [← HL2.out]; exact hx);have t0 := BlkAt.cell (S.out.get 1 rfl) 0; have t1 := BlkAt.cell (S.out.get 1 rfl) 1; have t2 := BlkAt.cell (S.out.get 1 rfl) 2; have t3 := BlkAt.cell (S.out.get 1 rfl) 3; simp only [List.getElem?_cons_succ,List.getElem?_cons_zero] at t0 t1 t2 t3;have HQ := Lib.hid (HO.out.below S.out.below);have hev : (erasV al onto).length ≤ 140737488355328 := Nat.le_trans (List.length_filter_le _ _) (by omega);have RC := Lib.hid (reach_c ⟨al,N,mr,ed⟩ onto q A c l q.AE q.cE (erasV al onto) wr HR.out HQ.out (S.out.ints 0 rfl) HLR.out hll HQ.out.e hev hel);simp only [Int.toNat_natCast] at RC;go_wp2_with fail
    refine RC.out.mono ?_;rintro e v2 ⟨A',c',rfl,ho,hb⟩;have S2 : (SepW w [eInts (rchV N ed (erasV al onto) l) (.slice A' (rchV N ed (erasV al onto) l).length c'),eInts l (.slice A l.length c),eBlk tb 118 [.slice (some ⟨q.bo,0,none⟩) N N,.slice q.AK (keptV al onto).length q.cK,.slice q.AE (erasV al onto).length q.cE,.slice q.AM mr.length q.cM]] v2) := S.out.newI ho.out hb;clear S RC ho hb t0 t1 t2 t3 HQ;go_wp2_with fail
    go_ret
    unfold nextP
    rw [← HL2.out];exact ⟨A',c',rfl,S2.out.ownAt 0 rfl,S2.out.below⟩
set_option maxHeartbeats 2000000 in
theorem start_c (a : Au) (onto : List Int) (q : ObP) (w : World) (hr : a.Right) (hn : 0 < a.n) (hO : ObAt w a onto q) (hel : a.ed.length ≤ 1000000) :
 Calls Tryz.prog 55 #[q.val a onto] w (GivesEs (startP a.n.toNat a.ed (erasV a.al onto)) w) := by
 have hel2 := rises_len (n := 32) hr.al.incr fun x hx => al_rg hr hx;have HO := Lib.hid hO;have HR := Lib.hid hr;have n0 := hr.n0;have n1 := hr.n1;obtain ⟨al,n,mr,ed⟩ := a;dsimp only at *;obtain ⟨N,rfl⟩ := Int.eq_ofNat_of_zero_le n0;clear n0;(try simp only [Int.toNat_natCast]);clear hr hO;have hz : ((N : Int) == 0) = false := beq_eq_false_iff_ne.2 (by omega);go_enter Tryz.func55,Tryz.ntmps55
 obtain ⟨tb,htb⟩ : ∃ g,g = w.heap.size := ⟨_,rfl⟩;go_upto_region 1 with fail
 rw [← htb];refine wp_world (fun W => Sep w.heap.size w [eBlk tb 118 [.slice (some ⟨q.bo,0,none⟩) N N,.slice q.AK (keptV al onto).length q.cK,.slice q.AE (erasV al onto).length q.cE,.slice q.AM mr.length q.cM]] W) ((Sep.here w).alloc' _ [_,_,_,_] rfl htb) fun W S => ?_;have S0 := Lib.hid S;clear S htb;have t0 := BlkAt.cell (S0.out.get 0 rfl) 0; have t1 := BlkAt.cell (S0.out.get 0 rfl) 1; have t2 := BlkAt.cell (S0.out.get 0 rfl) 2; have t3 := BlkAt.cell (S0.out.get 0 rfl) 3; simp only [List.getElem?_cons_succ,List.getElem?_cons_zero] at t0 t1 t2 t3;have S1 : (SepW w [eInts [0] (.slice (some ⟨W.heap.size,0,none⟩) 1 1),eBlk tb 118 [.slice (some ⟨q.bo,0,none⟩) N N,.slice q.AK (keptV al onto).length q.cK,.slice q.AE (erasV al onto).length q.cE,.slice q.AM mr.length q.cM]] (W.alloc (.cells #[.int .i64 0] 3))) := ((S0.out.alloc' 3 [.int .i64 0] rfl rfl).own 0 rfl encI 1 [0] rfl (fun _ => rfl) (by simp [maxLen]));have HQ := Lib.hid (HO.out.below S1.out.below);have hev : (erasV al onto).length ≤ 140737488355328 := Nat.le_trans (List.length_filter_le _ _) (by omega);have k2 := BlkAt.cell (S1.out.get 1 rfl) 2; simp only [List.getElem?_cons_succ,List.getElem?_cons_zero] at k2;have RC := Lib.hid (reach_c ⟨al,N,mr,ed⟩ onto q (some ⟨W.heap.size,0,none⟩) 1 [0] q.AE q.cE (erasV al onto) _ HR.out HQ.out (S1.out.ints 0 rfl) (fun x hx => by simp at hx; subst hx; exact ⟨by omega,hn⟩) (by simp) HQ.out.e hev hel);simp only [Int.toNat_natCast,List.length_singleton] at RC;go_wp2_with fail
 refine RC.out.mono ?_;rintro e v2 ⟨A',c',rfl,ho,hb⟩;have S2 : (SepW w [eInts (rchV N ed (erasV al onto) [0]) (.slice A' (rchV N ed (erasV al onto) [0]).length c'),eInts [0] (.slice (some ⟨W.heap.size,0,none⟩) 1 1),eBlk tb 118 [.slice (some ⟨q.bo,0,none⟩) N N,.slice q.AK (keptV al onto).length q.cK,.slice q.AE (erasV al onto).length q.cE,.slice q.AM mr.length q.cM]] v2) := S1.out.newI ho.out hb;clear S1 S0 RC ho hb t0 t1 t2 t3 HQ;go_wp2_with fail
 go_ret
 exact ⟨A',c',rfl,S2.out.ownAt 0 rfl,S2.out.below⟩
set_option maxHeartbeats 1000000 in
theorem isMd1_c (mr : List Int) (AM : Option Addr) (cM : Nat) (cs : List Value) (tb : Nat) (x : Int) (w : World) (hM : IntsAt w AM mr) (hl : mr.length ≤ 140737488355328) (hb : w.cell? ⟨tb,3,none⟩ = some (.slice AM mr.length cM)) :
 Calls Tryz.prog 91 #[.int .i64 x,.pointer (some ⟨tb,0,none⟩)] w (Tells (x ∈ mr) w) := by
 have HC := Lib.hid (containsV_c AM cM mr x w hM hl);clear hM;go_enter Tryz.func91,Tryz.ntmps91
 go_wp2_with fail
 refine HC.out.mono ?_;intro e w1 hs;rcases hs.no1 with ⟨rfl,hn,rfl⟩ | ⟨rfl,hn,rfl⟩
 · go_wp2_with fail
   go_ret
   exact ⟨false,rfl,by simpa using hn.out,Below.refl _ _⟩
 · go_wp2_with fail
   go_ret
   exact ⟨true,rfl,by simpa using hn.out,Below.refl _ _⟩
set_option maxHeartbeats 1000000 in
theorem isMd_c (a : Au) (onto : List Int) (q : ObP) (AS : Option Addr) (cS : Nat) (est : List Int) (w : World) (hr : a.Right) (hO : ObAt w a onto q) (hml : a.mr.length ≤ 140737488355328) (hS : IntsAt w AS est) (hsl : est.length ≤ 100000) :
 Calls Tryz.prog 57 #[q.val a onto,.slice AS est.length cS] w (Tells (mkdP a.mr est = true) w) := by
 have HS := Lib.hid hS;have HO := Lib.hid hO;have HR := Lib.hid hr;have n0 := hr.n0;have n1 := hr.n1;obtain ⟨al,n,mr,ed⟩ := a;dsimp only at *;obtain ⟨N,rfl⟩ := Int.eq_ofNat_of_zero_le n0;clear n0;(try simp only [Int.toNat_natCast]);clear hr hO hS;go_enter Tryz.func57,Tryz.ntmps57
 obtain ⟨tb,htb⟩ : ∃ g,g = w.heap.size := ⟨_,rfl⟩;go_upto_region 1 with fail
 rw [← htb];refine wp_world (fun W => Sep w.heap.size w [eBlk tb 118 [.slice (some ⟨q.bo,0,none⟩) N N,.slice q.AK (keptV al onto).length q.cK,.slice q.AE (erasV al onto).length q.cE,.slice q.AM mr.length q.cM]] W) ((Sep.here w).alloc' _ [_,_,_,_] rfl htb) fun W S => ?_;have S0 := Lib.hid S;clear S htb;have FC := Lib.hid (containsFI_c 91 #[.pointer (some ⟨tb,0,none⟩)] (fun args w => by rfl) (fun v => v ∈ mr) AS cS est W (HS.out.below IntE.stays S0.out.below) (by omega) (fun V x _ hb => isMd1_c mr q.AM q.cM [] tb x V (HO.out.below (S0.out.next hb).below).m hml (BlkAt.cell ((S0.out.next hb).get 0 rfl) 3)));go_wp2_with fail
 refine FC.out.mono ?_;intro e w3 hs;have HI : Hid ((∃ x,x ∈ est ∧ x ∈ mr) ↔ mkdP mr est = true) := by
  rw [Hid];simp [mkdP]
 rcases hs.no1 with ⟨rfl,hn,hb⟩ | ⟨rfl,hn,hb⟩
 · have S3 := Lib.hid (S0.out.next hb);go_wp2_with fail
   go_ret
   exact ⟨false,rfl,by rw [← HI.out]; simpa using hn.out,S3.out.below⟩
 · have S3 := Lib.hid (S0.out.next hb);go_wp2_with fail
   go_ret
   exact ⟨true,rfl,by rw [← HI.out]; simpa using hn.out,S3.out.below⟩
end
theorem flat_ed : ∀ (l : List Ed) (j : Nat) (u : Value),(l.flatMap Ed.cells)[j]? = some u → ∃ (q r : Nat) (x : Ed),j = q * 3 + r ∧ l[q]? = some x ∧ x.cells[r]? = some u := by
 intro l;induction l with
 | nil => intro j u h; simp at h
 | cons x t ih =>
   intro j u h;rw [List.flatMap_cons] at h;by_cases hj : j < 3
   · rw [List.getElem?_append_left (show j < x.cells.length from hj)] at h;exact ⟨0,j,x,by omega,rfl,h⟩
   · rw [List.getElem?_append_right (show x.cells.length ≤ j from by show 3 ≤ j; omega)] at h;obtain ⟨q,r,y,e,hy,hr⟩ := ih _ u h;have e : j - 3 = q * 3 + r := e;exact ⟨q + 1,r,y,by omega,by simpa using hy,hr⟩
theorem EdsAt.cells {w : World} {a : Addr} {l : List Ed} (h : EdsAt w (some a) l) : ∀ j u,(l.flatMap Ed.cells)[j]? = some u → w.cell? (a.add j) = some u := by
 intro j u hj;obtain ⟨q,r,x,rfl,hx,hr⟩ := flat_ed l j u hj;obtain ⟨b,off,y,hA,_,hy,e0,e1,e2⟩ := EdE.cells3 h (List.getElem?_eq_some_iff.1 hx).1;cases hA;rw [hx] at hy; cases hy;have ad : ∀ n : Nat,Addr.add ⟨b,off,none⟩ n = ⟨b,off + n,none⟩ := fun n => by
  unfold Addr.add
  by_cases h : n = 0
  · subst h; rfl
  · rw [if_neg h]
 rw [ad];match r,hr with
 | 0,hr => simp only [Ed.cells,List.getElem?_cons_zero,Option.some.injEq] at hr; subst hr; exact e0
 | 1,hr => simp only [Ed.cells,List.getElem?_cons_succ,List.getElem?_cons_zero,Option.some.injEq] at hr; subst hr; exact e1
 | 2,hr => simp only [Ed.cells,List.getElem?_cons_succ,List.getElem?_cons_zero,Option.some.injEq] at hr; subst hr; exact e2
 | (r + 3),hr => simp [Ed.cells] at hr
def GivesEdl (l : List Ed) (w : World) (e : Ending) (w' : World) : Prop := ∃ (A : Option Addr) (c : Nat),e = .returned (.slice A l.length c) ∧ Hid (Own Ed.cells 3 76 w.heap.size l (.slice A l.length c) w') ∧ Below w.heap.size w w'
set_option maxHeartbeats 400000 in
theorem cloneEd_c (A : Option Addr) (c : Nat) (l : List Ed) (w : World) (h : EdsAt w A l) (n1 : l.length ≤ 1048576) :
 Calls Tryz.prog 29 #[.slice A l.length c] w (GivesEdl l w) := by
 have q : ∀ (w : World),(binOp .eql 32 (.slice A l.length c) (.slice none 0 0)).run Tryz.prog w = .ok (.bool A.isNone) w := fun w => Lib.run_eql_slice_nil w _ _ A l.length c 0 0 Tryz.underlying32;have hn : A = none → l = [] := fun e => by
  subst e;cases l with
  | nil => rfl
  | cons x l => obtain ⟨b,off,h1,_⟩ := h (by simp); cases h1
 cases A with
 | none =>
   obtain rfl := hn rfl;simp only [Option.isNone_none,List.length_nil] at q ⊢;clear h hn;go_enter Tryz.func29,Tryz.ntmps29
   go_wp2
   go_ret
   exact ⟨none,0,rfl,Own.nil w,Below.refl _ _⟩
 | some a =>
   simp only [Option.isNone_some] at q;have H := Lib.hid h;have HLF : Hid ((l.flatMap Ed.cells).length = 3 * l.length) := by
    clear h hn q H n1;induction l with
    | nil => rfl
    | cons x l ih => rw [List.flatMap_cons,List.length_append,ih,List.length_cons]; show 3 + _ = _; omega
   clear h hn;go_enter Tryz.func29,Tryz.ntmps29
   have hown : (w.alloc (.cells #[] 76)).ownsRow w.heap.size 76 3 (.slice (some ⟨w.heap.size,0,none⟩) 0 0) 0 [] := ⟨rfl,.inr ⟨w.heap.size,0,#[],rfl,Nat.le_refl _,heap_alloc_new w _,Nat.le_refl _,by simp,rfl,rfl⟩⟩;obtain ⟨i0,hi0,hz0,hz1,hz2⟩ := info_parts (P := Tryz.prog) (e := 76) (z := .agg #[.int .i64 0,.int .i64 0,.int .i64 0]) (size := 3) (bytes := 24) (by kernel_rfl);go_wp2_with (at_builtin; refine wpList_append_own_at _ rfl _ _ 32 rfl w.heap.size 76 i0 (.agg #[.int .i64 0,.int .i64 0,.int .i64 0]) 3 24 Tryz.underlying32 hi0 hz0 hz1 hz2 rfl (by decide) _ _ _ rfl hown a l.length c (l.flatMap Ed.cells) rfl (by rw [HLF.out]; omega) (EdsAt.cells (H.out.below EdE.stays (Below.new _ _))) (by intro u hu; obtain ⟨x,_,hx⟩ := List.mem_flatMap.1 hu; simp only [Ed.cells,List.mem_cons,List.not_mem_nil,or_false] at hx; rcases hx with rfl | rfl | rfl <;> rfl) (by simp only [maxLen]; omega) (by omega) (by simp) ?_; intro v1 w1 ho1 hg1 _ hv1)
   obtain ⟨A1,c1,rfl⟩ := own_form ho1;simp only [Nat.zero_add,List.nil_append] at ho1 ⊢;go_wp2
   refine bodyPost_ret (v := .slice A1 l.length c1) (by simp [results,Tryz.results29,go_sem]) rfl ?_;exact ⟨A1,c1,rfl,ho1,(Below.new w _).grown hg1 (by simp) (fun j hj => by cases hj; simp)⟩
def Ac.rlx (x : Ac) : Ac := ⟨x.ev,0,-1⟩
def Md.rlx (m : Md) : Md := ⟨m.a,m.ac.map Ac.rlx,m.tk⟩
theorem Md.Ok.rlx {m : Md} (h : m.Ok) : m.rlx.Ok where
 a := h.a
 tk := h.tk
 no := h.no
 ev := by show (m.ac.map Ac.rlx).map Ac.ev = m.a.al; rw [← h.ev,List.map_map]; rfl
 bd := fun x hx => by
  obtain ⟨y,_,rfl⟩ := List.mem_map.1 hx;exact ⟨⟨Int.le_refl _,(by decide : (0 : Int) ≤ 16)⟩,.inl rfl⟩
section
def acE (x : Ac) (e : Int) : Int := if x.ev ≠ e then 6 else if x.lo < 0 ∨ 16 < x.lo then 2 else if x.up ≠ -1 ∧ (x.up < x.lo ∨ 16 < x.up) then 2 else 0
def acEk (m : Md) (k : Nat) : Int := acE (m.at k) (m.a.al.getD k 0)
def acsE (m : Md) : Nat → Int
 | 0 => 0
 | k + 1 => if acsE m k = 0 then acEk m k else acsE m k
def mdE (m : Md) (r : Int) : Int := if r ≠ 0 then r else if m.tk < 0 ∨ 32 ≤ m.tk then 2 else if m.tk ∈ m.a.al then 13 else if m.ac.length ≠ m.a.al.length then 4 else acsE m m.ac.length
def MErr (m : Md) (e : Int) : Prop := ∃ r,ChkErr m.a r ∧ e = mdE m r
section
variable {m : Md}
theorem MErr.uniq {e f : Int} (h : MErr m e) (g : MErr m f) : e = f := by
 obtain ⟨r,hr,rfl⟩ := h;obtain ⟨q,hq,rfl⟩ := g;rw [hr.uniq hq]
theorem acsE_next {k : Nat} (h : acsE m k = 0) (hk : acEk m k = 0) : acsE m (k + 1) = 0 := by
 show (if acsE m k = 0 then _ else _) = _
 rw [if_pos h,hk]
theorem acsE_all : ∀ n,acsE m n = 0 → ∀ j,j < n → acEk m j = 0 := by
 intro n;induction n with
 | zero => intro _ j hj; omega
 | succ n ih =>
   intro hn j hj;have hn : (if acsE m n = 0 then acEk m n else acsE m n) = 0 := hn;by_cases e : acsE m n = 0
   · rw [if_pos e] at hn;by_cases g : j = n
     · subst g; exact hn
     · exact ih e j (by omega)
   · rw [if_neg e] at hn; exact absurd hn e
theorem acE_zero {x : Ac} {e : Int} (h : acE x e = 0) : x.ev = e ∧ (0 ≤ x.lo ∧ x.lo ≤ 16) ∧ (x.up = -1 ∨ x.lo ≤ x.up ∧ x.up ≤ 16) := by
 unfold acE at h
 by_cases h1 : x.ev ≠ e
 · rw [if_pos h1] at h; cases h
 · rw [if_neg h1] at h;by_cases h2 : x.lo < 0 ∨ 16 < x.lo
   · rw [if_pos h2] at h; cases h
   · rw [if_neg h2] at h;by_cases h3 : x.up ≠ -1 ∧ (x.up < x.lo ∨ 16 < x.up)
     · rw [if_pos h3] at h; cases h
     · exact ⟨by omega,by omega,by omega⟩
theorem MErr.ok (h : MErr m 0) : m.Ok := by
 obtain ⟨r,hr,he⟩ := h;unfold mdE at he
 by_cases h0 : r ≠ 0
 · rw [if_pos h0] at he; exact absurd he.symm h0
 · rw [if_neg h0] at he;have h0 : r = 0 := by omega
   subst h0;have hR := hr.zero.1 rfl;by_cases h1 : m.tk < 0 ∨ 32 ≤ m.tk
   · rw [if_pos h1] at he; cases he
   · rw [if_neg h1] at he;by_cases h2 : m.tk ∈ m.a.al
     · rw [if_pos h2] at he; cases he
     · rw [if_neg h2] at he;by_cases h3 : m.ac.length ≠ m.a.al.length
       · rw [if_pos h3] at he; cases he
       · rw [if_neg h3] at he;have h3 : m.ac.length = m.a.al.length := by omega
         have key : ∀ j (hj : j < m.ac.length),(m.ac[j]).ev = m.a.al[j]'(by omega) ∧ (0 ≤ (m.ac[j]).lo ∧ (m.ac[j]).lo ≤ 16) ∧ ((m.ac[j]).up = -1 ∨ (m.ac[j]).lo ≤ (m.ac[j]).up ∧ (m.ac[j]).up ≤ 16) := by
          intro j hj;have h := acE_zero (acsE_all _ he.symm j hj);have e1 : m.at j = m.ac[j] := Md.at_get (List.getElem?_eq_getElem hj);have e2 : m.a.al.getD j 0 = m.a.al[j]'(by omega) := by rw [List.getD_eq_getElem?_getD,List.getElem?_eq_getElem (by omega)]; rfl
          rw [e1,e2] at h;exact h
         refine ⟨hR,by omega,h2,?_,fun x hx => ?_⟩
         · refine List.ext_getElem (by rw [List.length_map,h3]) fun j h4 h5 => ?_;rw [List.getElem_map];exact (key j (by rw [List.length_map] at h4; exact h4)).1
         · obtain ⟨j,hj,rfl⟩ := List.mem_iff_getElem.1 hx;exact (key j hj).2
theorem acsE_zero : ∀ n,(∀ j,j < n → acEk m j = 0) → acsE m n = 0 := by
 intro n;induction n with
 | zero => intro _; rfl
 | succ n ih => exact fun h => acsE_next (ih fun j hj => h j (by omega)) (h n (by omega))
theorem MErr.not {r : Int} (h : MErr m r) (h0 : r ≠ 0) : ¬ m.Ok := fun k => by
 obtain ⟨q,hq,rfl⟩ := h;obtain rfl := hq.zero.2 k.a;refine h0 ?_;unfold mdE
 have htk := k.tk;rw [if_neg (by omega),if_neg (by omega),if_neg k.no,if_neg (by have := k.len; omega)];refine acsE_zero _ fun j hj => ?_;have hev : m.a.al[j]? = some (m.at j).ev := by
  rw [← k.ev,List.getElem?_map,List.getElem?_eq_getElem hj,Option.map_some,Md.at_get (List.getElem?_eq_getElem hj)]
 have hbd := k.bd _ (Md.at_mem hj);unfold acEk acE
 rw [List.getD_eq_getElem?_getD,hev];rw [if_neg (by simp),if_neg (by omega),if_neg (by omega)]
theorem MErr.tick (h : ChkErr m.a 0) (h1 : m.tk < 0 ∨ 32 ≤ m.tk) : MErr m 2 := ⟨0,h,by unfold mdE; rw [if_neg (by omega),if_pos h1]⟩
theorem MErr.size (h : ChkErr m.a 0) (h1 : ¬ (m.tk < 0 ∨ 32 ≤ m.tk)) (h2 : ¬ m.tk ∈ m.a.al) (h3 : m.ac.length ≠ m.a.al.length) : MErr m 4 := ⟨0,h,by unfold mdE; rw [if_neg (by omega),if_neg h1,if_neg h2,if_pos h3]⟩
end
end

end Go.Proofs.YtimdepdbcdbikaaGreat
