/-
  What the row leans on.
-/
import Derived.Test.YtkifgffhoenaoaaDoorBas01
import Derived.Test.YtkifgffhoenaoaaDoorQax03
import Derived.Test.YtkifgffhoenaoaaDoorQax01
import Derived.Test.YtkifgffhoenaoaaDoorBas02
import Derived.Test.YtkifgffhoenaoaaDoorQax02
set_option linter.unusedSimpArgs false
set_option linter.unusedVariables false
namespace Go.Proofs.YtkifgffhoenaoaaDoor
open Go.RowKit
set_option maxRecDepth 100000
section

def edB (f : Nat → Bool) (x : Ed) : Nat → Bool := if f x.dst.toNat then fun t => decide (t = x.src.toNat) || f t else f
def rdB (ed : List Ed) (f : Nat → Bool) : Nat → Bool := ed.foldl edB f
def gdN (q : Au) : Nat → Nat → Bool
 | 0 => fun s => decide ((s : Int) ∈ q.mr)
 | r + 1 => rdB q.ed (gdN q r)
def cntB (n : Nat) (f : Nat → Bool) : Nat := ((List.range n).filter f).length
theorem edB_le (f : Nat → Bool) (x : Ed) (t : Nat) (h : f t = true) : edB f x t = true := by
 unfold edB
 split
 · simp [h]
 · exact h
theorem rdB_le : ∀ (ed : List Ed) (f : Nat → Bool) (t : Nat),f t = true → rdB ed f t = true
 | [],f,t,h => h
 | x :: ed,f,t,h => rdB_le ed (edB f x) t (edB_le f x t h)
theorem rdB_snoc (ed : List Ed) (x : Ed) (f : Nat → Bool) : rdB (ed ++ [x]) f = edB (rdB ed f) x := by simp [rdB]
section
variable {q : Au}
theorem edB_good (hr : q.Right) {f : Nat → Bool} (hf : ∀ s : Nat,f s = true → Good q s) {x : Ed} (hx : x ∈ q.ed) : ∀ s : Nat,edB f x s = true → Good q s := by
 intro s h;unfold edB at h
 split at h
 · rename_i hd
   simp only [Bool.or_eq_true,decide_eq_true_eq] at h;rcases h with rfl | h
   · obtain ⟨h1,h2,_,h4,_⟩ := edge_next hr hx;obtain ⟨w,hw⟩ := hf _ hd;rw [Int.toNat_of_nonneg h4] at hw;refine ⟨x.ev :: w,?_⟩;rw [Int.toNat_of_nonneg h2,runV,if_pos h2,h1];exact hw
   · exact hf s h
 · exact hf s h
theorem rdB_good (hr : q.Right) : ∀ (ed : List Ed) (f : Nat → Bool),(∀ x,x ∈ ed → x ∈ q.ed) → (∀ s : Nat,f s = true → Good q s) → ∀ s : Nat,rdB ed f s = true → Good q s
 | [],f,_,hf => hf
 | x :: ed,f,h,hf => rdB_good hr ed (edB f x) (fun y hy => h y (by simp [hy])) (edB_good hr hf (h x (by simp)))
theorem gdN_good (hr : q.Right) : ∀ (r : Nat) (s : Nat),gdN q r s = true → Good q s
 | 0,s,h => ⟨[],by simpa [gdN,runV] using h⟩
 | r + 1,s,h => rdB_good hr q.ed _ (fun x hx => hx) (gdN_good hr r) s h
def ClB (q : Au) (f : Nat → Bool) : Prop := ∀ x,x ∈ q.ed → f x.dst.toNat = true → f x.src.toNat = true
theorem cntB_mono {n : Nat} {f g : Nat → Bool} (h : ∀ t,f t = true → g t = true) : cntB n f ≤ cntB n g := by
 unfold cntB
 rw [← List.countP_eq_length_filter,← List.countP_eq_length_filter];exact List.countP_mono_left fun t _ => h t
theorem cntB_eq {n : Nat} {f g : Nat → Bool} (h : ∀ t,f t = true → g t = true) (hc : cntB n g ≤ cntB n f) : ∀ t,t < n → g t = true → f t = true := by
 induction n with
 | zero => intro t ht; omega
 | succ n ih =>
   have e : ∀ f : Nat → Bool,cntB (n + 1) f = cntB n f + if f n then 1 else 0 := fun f => by
    unfold cntB
    rw [List.range_succ,List.filter_append,List.length_append,List.filter_cons];by_cases k : f n = true
    · simp [k]
    · simp [k]
   rw [e,e] at hc;have hm := cntB_mono (n := n) h;have hn : (if f n then 1 else 0) ≤ (if g n then 1 else 0 : Nat) := by
    by_cases k : f n = true
    · rw [k,h n k]; simp
    · simp [k]
   intro t ht hg;by_cases k : t = n
   · subst k;rw [hg] at hc hn;by_cases k2 : f t = true
     · exact k2
     · simp [k2] at hc
       omega
   · exact ih (by omega) t (by omega) hg
theorem rdB_between : ∀ (ed : List Ed) (f : Nat → Bool) (x : Ed),x ∈ ed → f x.dst.toNat = true → rdB ed f x.src.toNat = true
 | y :: ed,f,x,hx,hd => by
   rcases List.mem_cons.1 hx with rfl | hx
   · refine rdB_le ed _ _ ?_;unfold edB
     rw [if_pos hd];simp
   · exact rdB_between ed (edB f y) x hx (edB_le f y _ hd)
theorem clB_of_count (hr : q.Right) {f : Nat → Bool} (hc : cntB q.n.toNat (rdB q.ed f) ≤ cntB q.n.toNat f) : ClB q f := by
 intro x hx hd;obtain ⟨_,h2,h3,_⟩ := edge_next hr hx;exact cntB_eq (rdB_le q.ed f) hc _ (by omega) (rdB_between q.ed f x hx hd)
theorem edB_cl (hr : q.Right) {f : Nat → Bool} (h : ClB q f) {x : Ed} (hx : x ∈ q.ed) : edB f x = f := by
 funext t
 unfold edB
 split
 · rename_i hd
   by_cases e : t = x.src.toNat
   · subst e; simp [h x hx hd]
   · simp [e]
 · rfl
theorem rdB_cl (hr : q.Right) {f : Nat → Bool} (h : ClB q f) : ∀ ed : List Ed,(∀ x,x ∈ ed → x ∈ q.ed) → rdB ed f = f
 | [],_ => rfl
 | x :: ed,he => by
   show rdB ed (edB f x) = f
   rw [edB_cl hr h (he x (by simp))];exact rdB_cl hr h ed fun y hy => he y (by simp [hy])
theorem gdN_cl (hr : q.Right) : ∀ r : Nat,ClB q (gdN q r) ∨ r ≤ cntB q.n.toNat (gdN q r)
 | 0 => .inr (Nat.zero_le _)
 | r + 1 => by
   rcases gdN_cl hr r with h | h
   · left
     show ClB q (rdB q.ed (gdN q r))
     rw [rdB_cl hr h q.ed fun x hx => hx];exact h
   · by_cases hc : cntB q.n.toNat (gdN q (r + 1)) ≤ cntB q.n.toNat (gdN q r)
     · left
       have hcl := clB_of_count hr (f := gdN q r) hc;show ClB q (rdB q.ed (gdN q r))
       rw [rdB_cl hr hcl q.ed fun x hx => hx];exact hcl
     · right; omega
theorem cntB_all {n : Nat} {f : Nat → Bool} (h : n ≤ cntB n f) : ∀ t,t < n → f t = true := fun t ht => by
 have := cntB_eq (n := n) (f := f) (g := fun _ => true) (fun _ _ => rfl) (by unfold cntB at h ⊢; rw [List.filter_eq_self.2 (fun _ _ => rfl),List.length_range]; exact h) t ht rfl;exact this
theorem gdN_mark : ∀ (r s : Nat),(s : Int) ∈ q.mr → gdN q r s = true
 | 0,s,h => by simpa [gdN] using h
 | r + 1,s,h => rdB_le q.ed _ s (gdN_mark r s h)
theorem gdN_fin (hr : q.Right) (s : Nat) (hs : s < q.n.toNat) : gdN q q.n.toNat s = true ↔ Good q s := by
 refine ⟨gdN_good hr _ s,?_⟩;have hcl : ClB q (gdN q q.n.toNat) := by
  rcases gdN_cl hr q.n.toNat with h | h
  · exact h
  · intro x hx _;obtain ⟨_,h2,h3,_⟩ := edge_next hr hx;exact cntB_all h _ (by omega)
 have key : ∀ (w : List Int) (s : Nat),s < q.n.toNat → runV q.ed s w ∈ q.mr → gdN q q.n.toNat s = true := by
  intro w;induction w with
  | nil => intro s _ h; exact gdN_mark _ s h
  | cons e w ih =>
    intro s hs h;rw [runV,if_pos (Int.natCast_nonneg _)] at h;rcases hr.next_cases (s : Int) e with g | ⟨g0,g1,x,hx,x1,x2,x3⟩
    · rw [g,runV_neg _ (by omega)] at h;have := (hr.mem h).1;omega
    · obtain ⟨k,hk⟩ := Int.eq_ofNat_of_zero_le g0;rw [hk] at h;have := hcl x hx (by rw [x3,hk,Int.toNat_natCast]; exact ih k (by omega) h);rwa [x1,Int.toNat_natCast] at this
 exact fun ⟨w,hw⟩ => key w s hs hw
end
end
set_option maxHeartbeats 4000000 in
theorem core9_c (a : Au) (p : AuP) (w : World) (hr : a.Right) (hA : Au.At w a p) :
 Calls Tryd.prog 79 #[a.val p] w (GivesB a.n.toNat (gdN a a.n.toNat) w) := by
 have HR := Lib.hid hr;have HA := Lib.hid hA;have h0 := hr.n0;have hn := hr.n1;have hml : a.mr.length ≤ 4096 := by have := hr.mr.short; omega
 have hel : a.ed.length ≤ 140737488355328 := hA.led;obtain ⟨al,n,mr,ed⟩ := a;obtain ⟨A1,c1,A2,c2,A3,c3⟩ := p;(try dsimp only [Au.val] at *);obtain ⟨N,rfl⟩ := Int.eq_ofNat_of_zero_le h0;have hmk := make_run (P := Tryd.prog) 118 4 (.bool false) 1 Tryd.underlying118 boolInfo rfl N (by omega) (by omega);clear hr hA h0;rw [Int.toNat_natCast];go_enter Tryd.func79,Tryd.ntmps79
 go_wp2_with fail
 refine wp_world (fun W => Sep w.heap.size w [eBlk (w.heap.size + 1) 4 (mkB N fun s => decide ((s : Int) ∈ mr.take 0)),eBlk w.heap.size 35 [.slice A1 al.length c1,.int .i64 ↑N,.slice A2 mr.length c2,.slice A3 ed.length c3]] W) ?_ fun W S => ?_
 · have e : (fun s : Nat => decide ((s : Int) ∈ mr.take 0)) = fun _ => false := by funext s; simp
   rw [e,← mkB_rep];exact ((Sep.here w).alloc 35 [_,_,_,_]).alloc' _ _ rfl (by simp)
 have S0 := Lib.hid S;clear hmk S;go_loopw [4] (fun i wr => ∃ k : Nat,i = .int .i64 k ∧ k ≤ mr.length ∧ (SepW w [eBlk (w.heap.size + 1) 4 (mkB N fun s => decide ((s : Int) ∈ mr.take k)),eBlk w.heap.size 35 [.slice A1 al.length c1,.int .i64 ↑N,.slice A2 mr.length c2,.slice A3 ed.length c3]] wr)) (fun i _ => mr.length - (intOf i).toNat)
 case atStart => exact ⟨0,rfl,Nat.zero_le _,S0.out⟩
 case round =>
  clear S0;obtain ⟨k,rfl,hk,S⟩ := hrel;have b2 := ckC S.out 1 rfl 2 rfl;have b1 := ckC S.out 1 rfl 1 rfl;by_cases hlt : k < mr.length
  · obtain ⟨b,off,x,rfl,hb,hx,c0⟩ := IntsAt.at (HA.out.below S.out.below).mr hlt;have hxr := HR.out.mem (List.mem_of_getElem? hx);simp only at hxr
    obtain ⟨m,rfl⟩ := Int.eq_ofNat_of_zero_le hxr.1;have q1 : wr.cell? ⟨w.heap.size + 1,m,none⟩ = some (.bool _) := (BlkAt.cell (S.out.get 0 rfl) m).trans (mkB_get (by omega));have f1 : wr.frozen? ⟨w.heap.size + 1,m,none⟩ = false := BlkAt.free (S.out.get 0 rfl) m;have S2 : (SepW w [eBlk (w.heap.size + 1) 4 (mkB N fun s => decide ((s : Int) ∈ mr.take (k + 1))),eBlk w.heap.size 35 [.slice A1 al.length c1,.int .i64 ↑N,.slice (some ⟨b,off,none⟩) mr.length c2,.slice A3 ed.length c3]] (wr.setCell ⟨w.heap.size + 1,m,none⟩ (.bool true))) := by
     have h := S.out.set 0 rfl m (.bool true);rw [mkB_set] at h;have e : (mkB N fun t => decide (t = m) || decide ((t : Int) ∈ mr.take k)) = mkB N fun s => decide ((s : Int) ∈ mr.take (k + 1)) := mkB_congr fun s _ => by
      rw [List.take_add_one,hx];simp only [Option.toList_some,List.mem_append,List.mem_singleton,Bool.decide_or];rw [Bool.or_comm];congr 1
      exact decide_eq_decide.2 (by omega)
     rw [e] at h;exact h
    clear hx S;go_wp2_with fail
    go_roundw
    case rel => exact ⟨k + 1,by go_num,by omega,S2.out⟩
    case measure => simp [intOf]; omega
  · obtain rfl : k = mr.length := by omega
    have S3 : (SepW w [eBlk (w.heap.size + 1) 4 (mkB N (gdN ⟨al,↑N,mr,ed⟩ 0)),eBlk w.heap.size 35 [.slice A1 al.length c1,.int .i64 ↑N,.slice A2 mr.length c2,.slice A3 ed.length c3]] wr) := by have h := S.out; rw [List.take_length] at h; exact h
    clear S b1;go_wp2_with fail
    go_loopw [5,6] (fun i _ wr => ∃ r : Nat,i = .int .i64 r ∧ r ≤ N ∧ (SepW w [eBlk (w.heap.size + 1) 4 (mkB N (gdN ⟨al,↑N,mr,ed⟩ r)),eBlk w.heap.size 35 [.slice A1 al.length c1,.int .i64 ↑N,.slice A2 mr.length c2,.slice A3 ed.length c3]] wr)) (fun i _ _ => N - (intOf i).toNat)
    case atStart => exact ⟨0,rfl,Nat.zero_le _,S3.out⟩
    case round =>
     clear S3 b2;obtain ⟨r,rfl,hrN,S⟩ := hrel;have b1 := ckC S.out 1 rfl 1 rfl;by_cases hlt : r < N
     · have F0 : (SepW w [eBlk (w.heap.size + 1) 4 (mkB N (rdB (ed.take 0) (gdN ⟨al,↑N,mr,ed⟩ r))),eBlk w.heap.size 35 [.slice A1 al.length c1,.int .i64 ↑N,.slice A2 mr.length c2,.slice A3 ed.length c3]] wr) := S.out;clear S;go_wp2_with fail
       go_loopw [6] (fun i wr => ∃ k : Nat,i = .int .i64 k ∧ k ≤ ed.length ∧ (SepW w [eBlk (w.heap.size + 1) 4 (mkB N (rdB (ed.take k) (gdN ⟨al,↑N,mr,ed⟩ r))),eBlk w.heap.size 35 [.slice A1 al.length c1,.int .i64 ↑N,.slice A2 mr.length c2,.slice A3 ed.length c3]] wr)) (fun i _ => ed.length - (intOf i).toNat)
       case atStart => exact ⟨0,rfl,Nat.zero_le _,F0.out⟩
       case round =>
        clear F0 b1;obtain ⟨k,rfl,hk,S⟩ := hrel;have b3 := ckC S.out 1 rfl 3 rfl;by_cases hlt2 : k < ed.length
        · obtain ⟨b,off,x,rfl,hb,hx,c0,cE,cD⟩ := EdsAt.at (HA.out.below S.out.below).ed hlt2;have hT : Hid (rdB (ed.take (k + 1)) (gdN ⟨al,↑N,mr,ed⟩ r) = edB (rdB (ed.take k) (gdN ⟨al,↑N,mr,ed⟩ r)) x) := by rw [Hid,List.take_add_one,hx]; exact rdB_snoc _ _ _
          have hxr := HR.out.edge hx;simp only at hxr
          obtain ⟨f,hf⟩ : ∃ f,rdB (ed.take k) (gdN ⟨al,↑N,mr,ed⟩ r) = f := ⟨_,rfl⟩;rw [hf] at S hT;obtain ⟨xs,xe,xd⟩ := x;simp only at hxr c0 cE cD
          obtain ⟨s,rfl⟩ := Int.eq_ofNat_of_zero_le hxr.1;obtain ⟨d,rfl⟩ := Int.eq_ofNat_of_zero_le hxr.2.2.1;have q1 : wr.cell? ⟨w.heap.size + 1,d,none⟩ = some (.bool (f d)) := (BlkAt.cell (S.out.get 0 rfl) d).trans (mkB_get (by omega));have q2 : wr.cell? ⟨w.heap.size + 1,s,none⟩ = some (.bool (f s)) := (BlkAt.cell (S.out.get 0 rfl) s).trans (mkB_get (by omega));have q3 : wr.frozen? ⟨w.heap.size + 1,s,none⟩ = false := BlkAt.free (S.out.get 0 rfl) s;have hs : s < N := by omega
          have hd : d < N := by omega
          obtain ⟨fd,hfd⟩ : ∃ b,f d = b := ⟨_,rfl⟩;rw [hfd] at q1;have HFD := Lib.hid hfd;clear hx hf hxr hfd;cases fd
          · have hE : Hid (edB f ⟨(s : Int),xe,(d : Int)⟩ = f) := by rw [Hid,edB,Int.toNat_natCast,HFD.out]; rfl
            go_wp2_with fail
            go_roundw
            case rel => exact ⟨k + 1,by go_num,by omega,by rw [hT.out,hE.out]; exact S.out⟩
            case measure => simp [intOf]; omega
          · have S2 : (SepW w [eBlk (w.heap.size + 1) 4 (mkB N (edB f ⟨(s : Int),xe,(d : Int)⟩)),eBlk w.heap.size 35 [.slice A1 al.length c1,.int .i64 ↑N,.slice A2 mr.length c2,.slice (some ⟨b,off,none⟩) ed.length c3]] (wr.setCell ⟨w.heap.size + 1,s,none⟩ (.bool true))) := by
             have h := S.out.set 0 rfl s (.bool true);rw [mkB_set] at h;have e : edB f ⟨(s : Int),xe,(d : Int)⟩ = fun t => decide (t = s) || f t := by
              unfold edB
              rw [Int.toNat_natCast,Int.toNat_natCast,HFD.out];rfl
             rw [e];exact h
            clear S;go_wp2_with fail
            go_roundw
            case rel => exact ⟨k + 1,by go_num,by omega,by rw [hT.out]; exact S2.out⟩
            case measure => simp [intOf]; omega
        · obtain rfl : k = ed.length := by omega
          have S4 : (SepW w [eBlk (w.heap.size + 1) 4 (mkB N (gdN ⟨al,↑N,mr,ed⟩ (r + 1))),eBlk w.heap.size 35 [.slice A1 al.length c1,.int .i64 ↑N,.slice A2 mr.length c2,.slice A3 ed.length c3]] wr) := by have h := S.out; rw [List.take_length] at h; exact h
          clear S;go_wp2_with fail
          go_roundw
          case rel => exact ⟨r + 1,by go_num,by omega,S4.out⟩
          case measure => simp [intOf]; omega
     · obtain rfl : r = N := by omega
       have S5 := Lib.hid S.out.first;go_wp2_with fail
       go_ret
       exact ⟨_,rfl,S5.out⟩
set_option maxHeartbeats 8000000 in
theorem alike_c (a : Au) (p : AuP) (AC : Option Addr) (cC : Nat) (c : List Int) (i k : Nat) (w : World) (hr : a.Right) (hA : Au.At w a p) (hC : IntsAt w AC c) (hl : c.length = a.n.toNat) (hi : (i : Int) < a.n) (hk : (k : Int) < a.n) :
 Calls Tryd.prog 80 #[a.val p,.slice AC c.length cC,.int .i64 ↑i,.int .i64 ↑k] w (Tells (keyC a c i = keyC a c k) w) := by
 have HR := Lib.hid hr;have HA := Lib.hid hA;have HC := Lib.hid hC;have hn := hr.n1;have hal : a.al.length ≤ 32 := by simpa using hr.al.short
 obtain ⟨al,n,mr,ed⟩ := a;obtain ⟨A1,c1,A2,c2,A3,c3⟩ := p;(try dsimp only [Au.val] at *);have hic : i < c.length := by omega
 have hkc : k < c.length := by omega
 obtain ⟨bC,oC,x,rfl,hbi,hx,ci⟩ := IntsAt.at HC.out hic;obtain ⟨y,hy,ck⟩ := IntsAt.more HC.out hkc;have hbk := hbi;have HL := Lib.hid hl;have HXi := Lib.hid (getD_of hx);have HYk := Lib.hid (getD_of hy);clear hr hA hC hx hy hl;go_enter Tryd.func80,Tryd.ntmps80
 go_upto_region 1 with fail
 refine wp_world (fun W => Sep w.heap.size w [eBlk w.heap.size 35 [.slice A1 al.length c1,.int .i64 n,.slice A2 mr.length c2,.slice A3 ed.length c3]] W) ?_ fun W1 S => ?_
 · exact (Sep.here w).alloc' _ [_,_,_,_] rfl rfl
 have S0 := Lib.hid S;clear S;go_cut [31] (fun v wx => ∃ b : Bool,v = .bool b ∧ Hid (b = false ↔ x = y ∧ ((i : Int) ∈ mr ↔ (k : Int) ∈ mr)) ∧ (SepW w [eBlk w.heap.size 35 [.slice A1 al.length c1,.int .i64 n,.slice A2 mr.length c2,.slice A3 ed.length c3]] wx))
 case first =>
  by_cases hxy : x = y
  · subst hxy;have hq : (x != x) = false := by simp
    have HQ1 : ∀ {bi bk : Bool},(bi = true ↔ (i : Int) ∈ mr) → (bk = true ↔ (k : Int) ∈ mr) → Hid ((bi != bk) = false ↔ x = x ∧ ((i : Int) ∈ mr ↔ (k : Int) ∈ mr)) := fun {bi bk} h1 h2 => by
     rw [Hid,← h1,← h2];cases bi <;> cases bk <;> simp
    have S1 := Lib.hid S0.out.drew;refine wp_region_held_drew (S := (fun V => Sep w.heap.size w [eBlk w.heap.size 35 [.slice A1 al.length c1,.int .i64 n,.slice A2 mr.length c2,.slice A3 ed.length c3]] V)) (by kernel_rfl) ?_ (fun hH => ?_)
    · exact S1.out.pick [0] (by decide)
    generalize hwz : W1.drew = w1 at *;clear hwz;refine tkP 0 rfl (v := ?_) hH ?_;(try simp only [sx]);refine tkP 1 rfl (v := ?_) hH ?_;(try simp only [sx]);refine tkP 2 rfl (v := ?_) hH ?_;(try simp only [sx]);refine tkH 3 rfl (v := ?_) (by kernel_rfl) ?_ hH ?_;rotate_left
    · intro V hs_;have bo := old_cell (show Sep w.heap.size w _ V from hs_).below ci hbi;clear hs_;first | (go_simp; done) | (go_simp; with_reducible rfl)
    (try simp only [sx]);refine tkP 4 rfl (v := ?_) hH ?_;(try simp only [sx]);refine tkP 5 rfl (v := ?_) hH ?_;(try simp only [sx]);refine tkP 6 rfl (v := ?_) hH ?_;(try simp only [sx]);refine tkH 7 rfl (v := ?_) (by kernel_rfl) ?_ hH ?_;rotate_left
    · intro V hs_;have bo := old_cell (show Sep w.heap.size w _ V from hs_).below ck hbk;clear hs_;first | (go_simp; done) | (go_simp; with_reducible rfl)
    (try simp only [sx]);refine tkP 8 rfl (v := ?_) hH ?_;(try simp only [sx]);refine tkP 9 rfl (v := ?_) hH ?_;(try simp only [sx]);refine tkH 10 rfl (v := ?_) (by kernel_rfl) ?_ hH ?_;rotate_left
    · intro V hs_;have a0 := ckC hs_ 0 rfl 0 rfl;have a1 := ckC hs_ 0 rfl 1 rfl;have a2 := ckC hs_ 0 rfl 2 rfl;have a3 := ckC hs_ 0 rfl 3 rfl;clear hs_;first | (go_simp; done) | (go_simp; with_reducible rfl)
    (try simp only [sx]);refine tkP 11 rfl (v := ?_) hH ?_;(try simp only [sx]);refine tkH 13 rfl (v := ?_) (by kernel_rfl) ?_ hH ?_;rotate_left
    · intro V hs_;have a0 := ckC hs_ 0 rfl 0 rfl;have a1 := ckC hs_ 0 rfl 1 rfl;have a2 := ckC hs_ 0 rfl 2 rfl;have a3 := ckC hs_ 0 rfl 3 rfl;clear hs_;first | (go_simp; done) | (go_simp; with_reducible rfl)
    (try simp only [sx]);refine tkP 14 rfl (v := ?_) hH ?_;(try simp only [sx]);refine rdH 12 rfl fun K hK => ?_;go_simp;refine (marked9_c ⟨al,n,mr,ed⟩ ⟨A1,c1,A2,c2,A3,c3⟩ i w1 (HA.out.below S1.out.below).mr HA.out.lmk).mono ?_;rintro e' w2 ⟨bi,rfl,hbi,hb⟩;have Bi := Lib.hid hbi;have S2 := Lib.hid (S1.out.next hb);clear hb hbi;refine hK.out _ _ (S2.out.pick [0] (by decide)) fun hH => ?_;clear hK K;(try simp only [sx]);refine rdH 15 rfl fun K hK => ?_;go_simp;refine (marked9_c ⟨al,n,mr,ed⟩ ⟨A1,c1,A2,c2,A3,c3⟩ k w2 (HA.out.below S2.out.below).mr HA.out.lmk).mono ?_;rintro e' w3 ⟨bk,rfl,hbk,hb⟩;have Bk := Lib.hid hbk;have S3 := Lib.hid (S2.out.next hb);clear hb hbk;refine hK.out _ _ (S3.out.pick [0] (by decide)) fun hH => ?_;clear hK K;(try simp only [sx]);refine tkP 16 rfl (v := ?_) hH ?_;(try simp only [sx]);refine tkP 17 rfl (v := ?_) hH ?_;(try simp only [sx]);refine wpAnyH_done (by kernel_rfl) ?_ _;go_wp2_with fail
    go_meet
    exact ⟨(bi != bk),rfl,HQ1 Bi.out Bk.out,S3.out⟩
  · have hq : (x != y) = true := by simpa using hxy
    have hq2 : (x == y) = false := by simpa using hxy
    have HQ2 : Hid (true = false ↔ x = y ∧ ((i : Int) ∈ mr ↔ (k : Int) ∈ mr)) := Iff.intro (fun h => nomatch h) (fun h => absurd h.1 hxy);clear hxy;have S4 := Lib.hid S0.out.drew;refine wp_region_held_drew (S := (fun V => Sep w.heap.size w [eBlk w.heap.size 35 [.slice A1 al.length c1,.int .i64 n,.slice A2 mr.length c2,.slice A3 ed.length c3]] V)) (by kernel_rfl) ?_ (fun hH => ?_)
    · exact S4.out.pick [0] (by decide)
    generalize hwz : W1.drew = w4 at *;clear hwz;refine tkP 0 rfl (v := ?_) hH ?_;(try simp only [sx]);refine tkP 1 rfl (v := ?_) hH ?_;(try simp only [sx]);refine tkP 2 rfl (v := ?_) hH ?_;(try simp only [sx]);refine tkH 3 rfl (v := ?_) (by kernel_rfl) ?_ hH ?_;rotate_left
    · intro V hs_;have bo := old_cell (show Sep w.heap.size w _ V from hs_).below ci hbi;clear hs_;first | (go_simp; done) | (go_simp; with_reducible rfl)
    (try simp only [sx]);refine tkP 4 rfl (v := ?_) hH ?_;(try simp only [sx]);refine tkP 5 rfl (v := ?_) hH ?_;(try simp only [sx]);refine tkP 6 rfl (v := ?_) hH ?_;(try simp only [sx]);refine tkH 7 rfl (v := ?_) (by kernel_rfl) ?_ hH ?_;rotate_left
    · intro V hs_;have bo := old_cell (show Sep w.heap.size w _ V from hs_).below ck hbk;clear hs_;first | (go_simp; done) | (go_simp; with_reducible rfl)
    (try simp only [sx]);refine tkP 8 rfl (v := ?_) hH ?_;(try simp only [sx]);refine tkP 9 rfl (v := ?_) hH ?_;(try simp only [sx]);refine wpAnyH_take (i := 10) (v := undef) rfl (by kernel_rfl) (by kernel_rfl) (by kernel_rfl) (fun _ _ _ h => h) (Or.inr ⟨?_,rfl⟩) hH ?_
    · kernel_rfl
    (try simp only [sx]);refine wpAnyH_take (i := 11) (v := undef) rfl (by kernel_rfl) (by kernel_rfl) (by kernel_rfl) (fun _ _ _ h => h) (Or.inr ⟨?_,rfl⟩) hH ?_
    · kernel_rfl
    (try simp only [sx]);refine wpAnyH_take (i := 12) (v := undef) rfl (by kernel_rfl) (by kernel_rfl) (by kernel_rfl) (fun _ _ _ h => h) (Or.inr ⟨?_,rfl⟩) hH ?_
    · kernel_rfl
    (try simp only [sx]);refine wpAnyH_take (i := 13) (v := undef) rfl (by kernel_rfl) (by kernel_rfl) (by kernel_rfl) (fun _ _ _ h => h) (Or.inr ⟨?_,rfl⟩) hH ?_
    · kernel_rfl
    (try simp only [sx]);refine wpAnyH_take (i := 14) (v := undef) rfl (by kernel_rfl) (by kernel_rfl) (by kernel_rfl) (fun _ _ _ h => h) (Or.inr ⟨?_,rfl⟩) hH ?_
    · kernel_rfl
    (try simp only [sx]);refine wpAnyH_take (i := 15) (v := undef) rfl (by kernel_rfl) (by kernel_rfl) (by kernel_rfl) (fun _ _ _ h => h) (Or.inr ⟨?_,rfl⟩) hH ?_
    · kernel_rfl
    (try simp only [sx]);refine wpAnyH_take (i := 16) (v := undef) rfl (by kernel_rfl) (by kernel_rfl) (by kernel_rfl) (fun _ _ _ h => h) (Or.inr ⟨?_,rfl⟩) hH ?_
    · kernel_rfl
    (try simp only [sx]);refine tkP 17 rfl (v := ?_) hH ?_;(try simp only [sx]);refine wpAnyH_done (by kernel_rfl) ?_ _;go_wp2_with fail
    go_meet
    exact ⟨true,rfl,HQ2,S4.out⟩
 case rest =>
  clear S0;obtain ⟨b,rfl,HB,S⟩ := hcut;cases b
  · have HB2 := Lib.hid (HB.out.1 rfl);clear HB;go_wp2_with fail
    go_loopw [9,10,11,12,13] (fun v _ _ _ _ wr => ∃ t : Nat,v = .int .i64 ↑t ∧ t ≤ al.length ∧ Hid (∀ ev,ev ∈ al.take t → clsI c (nextV ed (i : Int) ev) = clsI c (nextV ed (k : Int) ev)) ∧ (SepW w [eBlk w.heap.size 35 [.slice A1 al.length c1,.int .i64 n,.slice A2 mr.length c2,.slice A3 ed.length c3]] wr)) (fun v _ _ _ _ _ => al.length - (intOf v).toNat)
    case atStart => exact ⟨0,rfl,Nat.zero_le _,fun ev h => by simp at h,S.out⟩
    case round =>
     clear S;obtain ⟨t,rfl,ht,HE,S⟩ := hrel;have a0 := ckC S.out 0 rfl 0 rfl;by_cases htl : t < al.length
     · obtain ⟨bL,oL,ev,rfl,hbe,hev,ce⟩ := IntsAt.at HA.out.al htl;have HT : Hid (al.take (t + 1) = al.take t ++ [ev]) := by rw [Hid,List.take_add_one,hev]; rfl
       obtain ⟨tx,htx⟩ : ∃ t,toV (stepOf ed) (i : Int) ev = t := ⟨_,rfl⟩;obtain ⟨ty,hty⟩ : ∃ t,toV (stepOf ed) (k : Int) ev = t := ⟨_,rfl⟩;have HTX := Lib.hid htx;have HTY := Lib.hid hty;have hnx : nextV ed (i : Int) ev = tx := (HR.out.next (i : Int) ev).trans htx;have hny : nextV ed (k : Int) ev = ty := (HR.out.next (k : Int) ev).trans hty;have cx : tx = -1 ∨ 0 ≤ tx ∧ tx < n := by have h := Pre.key.next_rg HR.out (i : Int) ev; simp only at h; rw [hnx] at h; exact h
       have cy : ty = -1 ∨ 0 ≤ ty ∧ ty < n := by have h := Pre.key.next_rg HR.out (k : Int) ev; simp only at h; rw [hny] at h; exact h
       have HNX := Lib.hid hnx;have HNY := Lib.hid hny;clear htx hty hnx hny hev;go_upto_region 6 with fail
       go_cut [10,11] (fun x y wx => x = .int .i64 tx ∧ y = .int .i64 ty ∧ (SepW w [eBlk w.heap.size 35 [.slice (some ⟨bL,oL,none⟩) al.length c1,.int .i64 n,.slice A2 mr.length c2,.slice A3 ed.length c3]] wx))
       case first =>
        have S5 := Lib.hid S.out.drew;refine wp_region_held_drew (S := (fun V => Sep w.heap.size w [eBlk w.heap.size 35 [.slice (some ⟨bL,oL,none⟩) al.length c1,.int .i64 n,.slice A2 mr.length c2,.slice A3 ed.length c3]] V)) (by kernel_rfl) ?_ (fun hH => ?_)
        · exact S5.out.pick [0] (by decide)
        generalize hwz : wr.drew = w5 at *;clear hwz;refine tkH 0 rfl (v := ?_) (by kernel_rfl) ?_ hH ?_;rotate_left
        · intro V hs_;have a0 := ckC hs_ 0 rfl 0 rfl;have a1 := ckC hs_ 0 rfl 1 rfl;have a2 := ckC hs_ 0 rfl 2 rfl;have a3 := ckC hs_ 0 rfl 3 rfl;clear hs_;first | (go_simp; done) | (go_simp; with_reducible rfl)
        (try simp only [sx]);refine tkP 1 rfl (v := ?_) hH ?_;(try simp only [sx]);refine tkP 2 rfl (v := ?_) hH ?_;(try simp only [sx]);refine tkH 3 rfl (v := ?_) (by kernel_rfl) ?_ hH ?_;rotate_left
        · intro V hs_;have a0 := ckC hs_ 0 rfl 0 rfl;clear hs_;first | (go_simp; done) | (go_simp; with_reducible rfl)
        (try simp only [sx]);refine tkP 4 rfl (v := ?_) hH ?_;(try simp only [sx]);refine tkP 5 rfl (v := ?_) hH ?_;(try simp only [sx]);refine tkH 6 rfl (v := ?_) (by kernel_rfl) ?_ hH ?_;rotate_left
        · intro V hs_;have bo := old_cell (show Sep w.heap.size w _ V from hs_).below ce hbe;clear hs_;first | (go_simp; done) | (go_simp; with_reducible rfl)
        (try simp only [sx]);refine tkH 8 rfl (v := ?_) (by kernel_rfl) ?_ hH ?_;rotate_left
        · intro V hs_;have a0 := ckC hs_ 0 rfl 0 rfl;have a1 := ckC hs_ 0 rfl 1 rfl;have a2 := ckC hs_ 0 rfl 2 rfl;have a3 := ckC hs_ 0 rfl 3 rfl;clear hs_;first | (go_simp; done) | (go_simp; with_reducible rfl)
        (try simp only [sx]);refine tkP 9 rfl (v := ?_) hH ?_;(try simp only [sx]);refine tkP 10 rfl (v := ?_) hH ?_;(try simp only [sx]);refine tkH 11 rfl (v := ?_) (by kernel_rfl) ?_ hH ?_;rotate_left
        · intro V hs_;have a0 := ckC hs_ 0 rfl 0 rfl;clear hs_;first | (go_simp; done) | (go_simp; with_reducible rfl)
        (try simp only [sx]);refine tkP 12 rfl (v := ?_) hH ?_;(try simp only [sx]);refine tkP 13 rfl (v := ?_) hH ?_;(try simp only [sx]);refine tkH 14 rfl (v := ?_) (by kernel_rfl) ?_ hH ?_;rotate_left
        · intro V hs_;have bo := old_cell (show Sep w.heap.size w _ V from hs_).below ce hbe;clear hs_;first | (go_simp; done) | (go_simp; with_reducible rfl)
        (try simp only [sx]);refine rdH 7 rfl fun K hK => ?_;go_simp;refine (step9_e ⟨al,n,mr,ed⟩ ⟨some ⟨bL,oL,none⟩,c1,A2,c2,A3,c3⟩ (i : Int) ev tx w5 HR.out (HA.out.below S5.out.below).ed HA.out.led HTX.out).mono ?_;rintro e w6 ⟨rfl,hb⟩;have S6 := Lib.hid (S5.out.next hb);clear hb;refine hK.out _ _ (S6.out.pick [0] (by decide)) fun hH => ?_;clear hK K;(try simp only [sx]);refine rdH 15 rfl fun K hK => ?_;go_simp;refine (step9_e ⟨al,n,mr,ed⟩ ⟨some ⟨bL,oL,none⟩,c1,A2,c2,A3,c3⟩ (k : Int) ev ty w6 HR.out (HA.out.below S6.out.below).ed HA.out.led HTY.out).mono ?_;rintro e w7 ⟨rfl,hb⟩;have S7 := Lib.hid (S6.out.next hb);clear hb;refine hK.out _ _ (S7.out.pick [0] (by decide)) fun hH => ?_;clear hK K;(try simp only [sx]);refine tkP 16 rfl (v := ?_) hH ?_;(try simp only [sx]);refine tkP 17 rfl (v := ?_) hH ?_;(try simp only [sx]);refine wpAnyH_done (by kernel_rfl) ?_ _;go_wp2_with fail
        go_meet
        exact ⟨rfl,rfl,S7.out⟩
       case rest =>
        clear S a0;obtain ⟨rfl,rfl,S⟩ := hcut;have val : ∀ z : Int,(z = -1 ∨ 0 ≤ z ∧ z < n) → (¬ 0 ≤ z ∧ clsI c z = 0) ∨ (0 ≤ z ∧ ∃ m : Nat,z = (m : Int) ∧ m < c.length ∧ wc.cell? ⟨bC,oC + m,none⟩ = some (.int .i64 (clsI c z))) := fun z hz => by
         rcases hz with rfl | hz
         · exact .inl ⟨by omega,rfl⟩
         · obtain ⟨m,rfl⟩ := Int.eq_ofNat_of_zero_le hz.1;have hm : m < c.length := by have := HL.out; omega
           obtain ⟨u,hu,cu⟩ := IntsAt.more HC.out hm;refine .inr ⟨hz.1,m,rfl,hm,?_⟩;have : clsI c (m : Int) = u := by unfold clsI; rw [if_pos hz.1,Int.toNat_natCast]; exact getD_of hu
           rw [this];exact old_cell S.out.below cu hbi
        have vx := val tx cx;have vy := val ty cy;obtain ⟨px,hpx⟩ : ∃ p,clsI c tx = p := ⟨_,rfl⟩;obtain ⟨py,hpy⟩ : ∃ p,clsI c ty = p := ⟨_,rfl⟩;rw [hpx] at vx;rw [hpy] at vy;have HPX := Lib.hid hpx;have HPY := Lib.hid hpy;clear val cx cy hpx hpy;have fin : Hid (px = py → ∀ e,e ∈ al.take (t + 1) → clsI c (nextV ed (i : Int) e) = clsI c (nextV ed (k : Int) e)) := fun h e he => by
         rw [HT.out] at he;rcases List.mem_append.1 he with g | g
         · exact HE.out e g
         · rw [List.mem_singleton.1 g,HNX.out,HNY.out,HPX.out,HPY.out,h]
        have bad : Hid (px ≠ py → ¬ keyC ⟨al,n,mr,ed⟩ c i = keyC ⟨al,n,mr,ed⟩ c k) := fun h e => by
         have h3 := (Prod.mk.inj (Prod.mk.inj e).2).2;have hm : ev ∈ al := List.mem_of_mem_take (i := t + 1) (by rw [HT.out]; simp);have := List.map_inj_left.1 h3 ev hm;simp only at this
         rw [HNX.out,HNY.out,HPX.out,HPY.out] at this;exact h this
        clear HE HT HTX HTY HNX HNY HPX HPY;by_cases hpq : px = py
        · have HF := Lib.hid (fin.out hpq);subst hpq;have hq : (px != px) = false := by simp
          clear fin bad;rcases vx with ⟨g1,rfl⟩ | ⟨g1,m1,rfl,l1,e1⟩ <;> rcases vy with ⟨g2,h2⟩ | ⟨g2,m2,rfl,l2,e2⟩
          all_goals
           (try subst h2);go_wp2_with fail
           go_roundw
           case rel => exact ⟨t + 1,by go_num,by omega,HF.out,S.out⟩
           case measure => simp [intOf]; omega
        · have HF := Lib.hid (bad.out hpq);have hq : (px != py) = true := by simpa using hpq
          have hq2 : (px == py) = false := by simpa using hpq
          clear fin bad hpq;rcases vx with ⟨g1,rfl⟩ | ⟨g1,m1,rfl,l1,e1⟩ <;> rcases vy with ⟨g2,rfl⟩ | ⟨g2,m2,rfl,l2,e2⟩
          all_goals first | exact absurd hq (by decide) | skip
          all_goals
           go_wp2_with fail
           go_ret
           exact Tells.no HF.out S.out.below
     · obtain rfl : t = al.length := by omega
       have HK : Hid (keyC ⟨al,n,mr,ed⟩ c i = keyC ⟨al,n,mr,ed⟩ c k) := by
        unfold keyC
        have hm : ((i : Int) ∈ mr) = ((k : Int) ∈ mr) := propext HB2.out.2;rw [Hid,HXi.out,HYk.out,HB2.out.1];simp only [hm];congr 2
        have h := HE.out;rw [List.take_length] at h;exact List.map_congr_left h
       clear HE;go_wp2_with fail
       go_ret
       exact Tells.yes HK.out S.out.below
  · have HF : Hid (¬ keyC ⟨al,n,mr,ed⟩ c i = keyC ⟨al,n,mr,ed⟩ c k) := fun e => by
     have h1 := (Prod.mk.inj e).1;have h2 := (Prod.mk.inj (Prod.mk.inj e).2).1;rw [HXi.out,HYk.out] at h1;have := HB.out.2 ⟨h1,by simpa using h2⟩;cases this
    clear HB;go_wp2_with fail
    go_ret
    exact Tells.no HF.out S.out.below
def iv (l : List Int) : List Value := l.map (Value.int .i64)
theorem iv_set (A : List Int) (x y : Int) (B : List Int) (i : Nat) (h : A.length = i) : (iv (A ++ x :: B)).set i (.int .i64 y) = iv (A ++ y :: B) := by
 subst h;unfold iv
 rw [List.map_append,List.map_append,List.map_cons,List.map_cons];rw [List.set_append_right _ _ (by simp)];simp
theorem iv_get {l : List Int} {i : Nat} {x : Int} (h : l[i]? = some x) : (iv l)[i]? = some (.int .i64 x) := by unfold iv; rw [List.getElem?_map,h]; rfl
theorem iv_mid (A : List Int) (x : Int) (B : List Int) (i : Nat) (h : A.length = i) : (iv (A ++ x :: B))[i]? = some (.int .i64 x) := iv_get (by subst h; simp)
theorem iv_pre {A : List Int} {i : Nat} {x : Int} (h : A[i]? = some x) (B : List Int) : (iv (A ++ B))[i]? = some (.int .i64 x) := iv_get (by rw [List.getElem?_append_left (List.getElem?_eq_some_iff.1 h).1]; exact h)
theorem cntO_le {κ : Type} [DecidableEq κ] : ∀ l : List (Option κ),cntO l ≤ l.length := snoc_ind (by simp [cntO,seenK]) fun l o ih => by
 rw [List.length_append];cases o with
 | none => rw [cntO_none]; simp; omega
 | some k => rw [cntO_some]; split <;> simp <;> omega
theorem rep_succ (n i : Nat) (h : i < n) : List.replicate (n - i) (0 : Int) = 0 :: List.replicate (n - (i + 1)) 0 := by
 rw [show n - i = (n - (i + 1)) + 1 by omega,List.replicate_succ]
def GivesC9 (a : Au) (w : World) (e : Ending) (w' : World) : Prop := ∃ g,e = .returned (.slice (some ⟨g,0,none⟩) a.n.toNat a.n.toNat) ∧ (SepW w [eBlk g 3 (iv (clsN a (gdN a a.n.toNat) a.n.toNat))] w')
set_option maxHeartbeats 16000000 in
theorem classes9_c (a : Au) (p : AuP) (w : World) (hr : a.Right) (hA : Au.At w a p) :
 Calls Tryd.prog 54 #[a.val p] w (GivesC9 a w) := by
 have HR := Lib.hid hr;have HA := Lib.hid hA;have h0 := hr.n0;have hn := hr.n1;have HGD : Hid (∀ s : Nat,s < a.n.toNat → (gdN a a.n.toNat s = true ↔ Good a s)) := fun s hs => gdN_fin hr s hs;obtain ⟨al,n,mr,ed⟩ := a;obtain ⟨A1,c1,A2,c2,A3,c3⟩ := p;(try dsimp only [Au.val] at *);obtain ⟨N,rfl⟩ := Int.eq_ofNat_of_zero_le h0;have hmk := make_run (P := Tryd.prog) 32 3 (.int .i64 0) 8 Tryd.underlying32 intInfo rfl N (by omega) (by omega);clear hr hA h0;unfold GivesC9
 simp only [Int.toNat_natCast] at HGD ⊢;obtain ⟨gd,hgd⟩ : ∃ gd,gdN ⟨al,↑N,mr,ed⟩ N = gd := ⟨_,rfl⟩;rw [hgd] at HGD ⊢;have HGE := Lib.hid hgd;clear hgd;go_enter Tryd.func54,Tryd.ntmps54
 go_upto_region 1 with fail
 refine wp_world (fun W => Sep w.heap.size w [eBlk w.heap.size 35 [.slice A1 al.length c1,.int .i64 ↑N,.slice A2 mr.length c2,.slice A3 ed.length c3]] W) ?_ fun W S => ?_
 · exact (Sep.here w).alloc' _ [_,_,_,_] rfl rfl
 have S0 := Lib.hid S;clear S;have a0 := ckC S0.out 0 rfl 0 rfl;have a1 := ckC S0.out 0 rfl 1 rfl;have a2 := ckC S0.out 0 rfl 2 rfl;have a3 := ckC S0.out 0 rfl 3 rfl;go_wp2_with fail
 refine (core9_c ⟨al,↑N,mr,ed⟩ ⟨A1,c1,A2,c2,A3,c3⟩ W HR.out (HA.out.below S0.out.below)).mono ?_;rintro e W1 ⟨gg,rfl,T⟩;simp only [Int.toNat_natCast,HGE.out] at T ⊢;have S1 := ckN S0.out T.out;clear T S0 a0 a1 a2 a3;have a1 := ckC S1.out 1 rfl 1 rfl;obtain ⟨go,hgo⟩ : ∃ g,g = W1.heap.size := ⟨_,rfl⟩;go_upto_region 3 with fail
 rw [← hgo];refine wp_world (fun V => Sep w.heap.size w [eBlk go 3 (iv ((cls0 ⟨al,↑N,mr,ed⟩ gd).take 0 ++ List.replicate (N - 0) 0)),eBlk gg 4 (mkB N gd),eBlk w.heap.size 35 [.slice A1 al.length c1,.int .i64 ↑N,.slice A2 mr.length c2,.slice A3 ed.length c3]] V) ?_ fun V S' => ?_
 · have h := S1.out.alloc' 3 (iv (List.replicate N 0)) (o := .cells (Array.replicate N (.int .i64 0)) 3) (by simp [iv]) hgo;simpa [cls0] using h
 have S2 := Lib.hid S';clear S' S1 hgo a1;go_wp2_with fail
 go_loopw [5] (fun i wr => ∃ s : Nat,i = .int .i64 ↑s ∧ s ≤ N ∧ (SepW w [eBlk go 3 (iv ((cls0 ⟨al,↑N,mr,ed⟩ gd).take s ++ List.replicate (N - s) 0)),eBlk gg 4 (mkB N gd),eBlk w.heap.size 35 [.slice A1 al.length c1,.int .i64 ↑N,.slice A2 mr.length c2,.slice A3 ed.length c3]] wr)) (fun i _ => N - (intOf i).toNat)
 case atStart => exact ⟨0,rfl,Nat.zero_le _,S2.out⟩
 case round =>
  clear S2;obtain ⟨s,rfl,hs,S⟩ := hrel;have a0 := ckC S.out 2 rfl 0 rfl;have a1 := ckC S.out 2 rfl 1 rfl;have a2 := ckC S.out 2 rfl 2 rfl;have a3 := ckC S.out 2 rfl 3 rfl;by_cases hlt : s < N
  · have hA : ((cls0 ⟨al,↑N,mr,ed⟩ gd).take s).length = s := by simp [cls0]; omega
    have hT : Hid ((cls0 ⟨al,↑N,mr,ed⟩ gd).take (s + 1) = (cls0 ⟨al,↑N,mr,ed⟩ gd).take s ++ [if (s : Int) ∈ mr then 2 else if gd s then 1 else 0]) := by
     rw [Hid,List.take_add_one];congr 1
     simp [cls0,hlt]
    obtain ⟨TK,hTK⟩ : ∃ TK,(cls0 ⟨al,↑N,mr,ed⟩ gd).take s = TK := ⟨_,rfl⟩;rw [hTK] at hA hT S;have HAl := Lib.hid hA;clear hA hTK;have S3 : (SepW w [eBlk go 3 (iv (TK ++ 0 :: List.replicate (N - (s + 1)) 0)),eBlk gg 4 (mkB N gd),eBlk w.heap.size 35 [.slice A1 al.length c1,.int .i64 ↑N,.slice A2 mr.length c2,.slice A3 ed.length c3]] wr) := by have h := S.out; rw [rep_succ N s hlt] at h; exact h
    have HMG : Hid ((s : Int) ∈ mr → gd s = true) := fun h => (HGD.out s hlt).2 ⟨[],h⟩;have g1 : wr.cell? ⟨gg,s,none⟩ = some (.bool (gd s)) := (BlkAt.cell (S3.out.get 1 rfl) s).trans (mkB_get hlt);have o1 : wr.cell? ⟨go,s,none⟩ = some (.int .i64 0) := (BlkAt.cell (S3.out.get 0 rfl) s).trans (iv_mid _ _ _ _ HAl.out);have f1 : wr.frozen? ⟨go,s,none⟩ = false := BlkAt.free (S3.out.get 0 rfl) s;clear S;cases hgs : gd s
    · rw [hgs] at g1 hT HMG;have HNM : Hid (¬ (s : Int) ∈ mr) := fun h => by have := HMG.out h; cases this
      go_wp2_with fail
      refine (marked9_c ⟨al,↑N,mr,ed⟩ ⟨A1,c1,A2,c2,A3,c3⟩ (s : Int) wr (HA.out.below S3.out.below).mr HA.out.lmk).mono ?_;intro e w3 hsay;obtain ⟨rfl,hb⟩ := hsay.no2 HNM.out;have S4 : (SepW w [eBlk go 3 (iv ((cls0 ⟨al,↑N,mr,ed⟩ gd).take (s + 1) ++ List.replicate (N - (s + 1)) 0)),eBlk gg 4 (mkB N gd),eBlk w.heap.size 35 [.slice A1 al.length c1,.int .i64 ↑N,.slice A2 mr.length c2,.slice A3 ed.length c3]] w3) := by
       have h := S3.out.next hb;rw [hT.out,if_neg HNM.out,if_neg (by simp),List.append_assoc];exact h
      clear hb S3 hsay a0 a1 a2 a3 g1 o1 f1;go_wp2_with fail
      go_roundw
      case rel => exact ⟨s + 1,by go_num,by omega,S4.out⟩
      case measure => simp [intOf]; omega
    · rw [hgs] at g1 hT;have S4 : (SepW w [eBlk go 3 (iv (TK ++ 1 :: List.replicate (N - (s + 1)) 0)),eBlk gg 4 (mkB N gd),eBlk w.heap.size 35 [.slice A1 al.length c1,.int .i64 ↑N,.slice A2 mr.length c2,.slice A3 ed.length c3]] (wr.setCell ⟨go,s,none⟩ (.int .i64 1))) := by
       have h := S3.out.set 0 rfl s (.int .i64 1);rw [iv_set _ _ _ _ _ HAl.out] at h;exact h
      obtain ⟨W4,hW4⟩ : ∃ W4,W4 = wr.setCell ⟨go,s,none⟩ (.int .i64 1) := ⟨_,rfl⟩;rw [← hW4] at S4;clear HMG;go_upto_region 8 with fail
      rw [← hW4];clear hW4 S3 g1 o1 f1 a0 a1 a2 a3;have a0 := ckC S4.out 2 rfl 0 rfl;have a1 := ckC S4.out 2 rfl 1 rfl;have a2 := ckC S4.out 2 rfl 2 rfl;have a3 := ckC S4.out 2 rfl 3 rfl;go_wp2_with fail
      refine (marked9_c ⟨al,↑N,mr,ed⟩ ⟨A1,c1,A2,c2,A3,c3⟩ (s : Int) W4 (HA.out.below S4.out.below).mr HA.out.lmk).mono ?_;rintro e w3 ⟨b,rfl,hb',hb⟩;have HB := Lib.hid hb';have S5 := Lib.hid (S4.out.next hb);clear hb hb' S4 a0 a1 a2 a3;cases b
      · have HNM : Hid (¬ (s : Int) ∈ mr) := fun h => by have := HB.out.2 h; cases this
        have S6 : (SepW w [eBlk go 3 (iv ((cls0 ⟨al,↑N,mr,ed⟩ gd).take (s + 1) ++ List.replicate (N - (s + 1)) 0)),eBlk gg 4 (mkB N gd),eBlk w.heap.size 35 [.slice A1 al.length c1,.int .i64 ↑N,.slice A2 mr.length c2,.slice A3 ed.length c3]] w3) := by
         rw [hT.out,if_neg HNM.out];simp only [if_true,List.append_assoc];exact S5.out
        clear S5;go_wp2_with fail
        go_roundw
        case rel => exact ⟨s + 1,by go_num,by omega,S6.out⟩
        case measure => simp [intOf]; omega
      · have HM := Lib.hid (HB.out.1 rfl);have o1 : w3.cell? ⟨go,s,none⟩ = some (.int .i64 1) := (BlkAt.cell (S5.out.get 0 rfl) s).trans (iv_mid _ _ _ _ HAl.out);have f1 : w3.frozen? ⟨go,s,none⟩ = false := BlkAt.free (S5.out.get 0 rfl) s;have S6 : (SepW w [eBlk go 3 (iv ((cls0 ⟨al,↑N,mr,ed⟩ gd).take (s + 1) ++ List.replicate (N - (s + 1)) 0)),eBlk gg 4 (mkB N gd),eBlk w.heap.size 35 [.slice A1 al.length c1,.int .i64 ↑N,.slice A2 mr.length c2,.slice A3 ed.length c3]] (w3.setCell ⟨go,s,none⟩ (.int .i64 2))) := by
         have h := S5.out.set 0 rfl s (.int .i64 2);rw [iv_set _ _ _ _ _ HAl.out] at h;rw [hT.out,if_pos HM.out,List.append_assoc];exact h
        clear S5;go_wp2_with fail
        go_roundw
        case rel => exact ⟨s + 1,by go_num,by omega,S6.out⟩
        case measure => simp [intOf]; omega
  · obtain rfl : N = s := by omega
    have S3 : (SepW w [eBlk go 3 (iv ((clsN ⟨al,↑N,mr,ed⟩ gd 0))),eBlk gg 4 (mkB N gd),eBlk w.heap.size 35 [.slice A1 al.length c1,.int .i64 ↑N,.slice A2 mr.length c2,.slice A3 ed.length c3]] wr) := by
     have h := S.out;rw [List.take_of_length_le (by simp [cls0]),Nat.sub_self,List.replicate_zero,List.append_nil] at h;exact h
    clear S a0 a2 a3;go_wp2_with fail
    go_loopw [4,6,7,8,9,10] (fun v4 v6 _ _ _ _ wr => ∃ (r : Nat) (go : Nat),v6 = .int .i64 ↑r ∧ v4 = .slice (some ⟨go,0,none⟩) N N ∧ r ≤ N ∧ (SepW w [eBlk go 3 (iv ((clsN ⟨al,↑N,mr,ed⟩ gd r))),eBlk gg 4 (mkB N gd),eBlk w.heap.size 35 [.slice A1 al.length c1,.int .i64 ↑N,.slice A2 mr.length c2,.slice A3 ed.length c3]] wr)) (fun _ v6 _ _ _ _ _ => N - (intOf v6).toNat)
    case atStart => exact ⟨0,go,rfl,rfl,Nat.zero_le _,S3.out⟩
    case round =>
     clear S3 a1;obtain ⟨r,go,rfl,rfl,hrN,S⟩ := hrel;have a1 := ckC S.out 2 rfl 1 rfl;by_cases hlt2 : r < N
     · obtain ⟨gn,hgn⟩ : ∃ g,g = wr.heap.size := ⟨_,rfl⟩;go_upto_region 14 with fail
       rw [← hgn];refine wp_world (fun V => Sep w.heap.size w [eBlk gn 3 (iv (numO ((keysC ⟨al,↑N,mr,ed⟩ gd (clsN ⟨al,↑N,mr,ed⟩ gd r)).take 0) ++ List.replicate (N - 0) 0)),eBlk go 3 (iv ((clsN ⟨al,↑N,mr,ed⟩ gd r))),eBlk gg 4 (mkB N gd),eBlk w.heap.size 35 [.slice A1 al.length c1,.int .i64 ↑N,.slice A2 mr.length c2,.slice A3 ed.length c3]] V) ?_ fun V S' => ?_
       · have h := S.out.alloc' 3 (iv (List.replicate N 0)) (o := .cells (Array.replicate N (.int .i64 0)) 3) (by simp [iv]) hgn;simpa [numO] using h
       have S4 := Lib.hid S';clear S' S hgn a1;go_wp2_with fail
       go_loopw [8,9,10] (fun v8 v9 _ wr => ∃ i : Nat,v9 = .int .i64 ↑i ∧ v8 = .int .i64 (1 + (cntO ((keysC ⟨al,↑N,mr,ed⟩ gd (clsN ⟨al,↑N,mr,ed⟩ gd r)).take i) : Int)) ∧ i ≤ N ∧ (SepW w [eBlk gn 3 (iv (numO ((keysC ⟨al,↑N,mr,ed⟩ gd (clsN ⟨al,↑N,mr,ed⟩ gd r)).take i) ++ List.replicate (N - i) 0)),eBlk go 3 (iv ((clsN ⟨al,↑N,mr,ed⟩ gd r))),eBlk gg 4 (mkB N gd),eBlk w.heap.size 35 [.slice A1 al.length c1,.int .i64 ↑N,.slice A2 mr.length c2,.slice A3 ed.length c3]] wr)) (fun _ v9 _ _ => N - (intOf v9).toNat)
       case atStart => exact ⟨0,rfl,by simp [cntO,seenK],Nat.zero_le _,S4.out⟩
       case round =>
        clear S4;obtain ⟨i,rfl,rfl,hi,S⟩ := hrel;have a1 := ckC S.out 3 rfl 1 rfl;by_cases hlt3 : i < N
        · obtain ⟨K,hK⟩ : ∃ K,(keysC ⟨al,↑N,mr,ed⟩ gd (clsN ⟨al,↑N,mr,ed⟩ gd r)).take i = K := ⟨_,rfl⟩;rw [hK] at S ⊢;have hKl : K.length = i := by rw [← hK]; simp [keysC]; omega
          have hKn : (numO K).length = i := by rw [numO_len]; exact hKl
          have HKN := Lib.hid hKn;have hKs : Hid ((keysC ⟨al,↑N,mr,ed⟩ gd (clsN ⟨al,↑N,mr,ed⟩ gd r)).take (i + 1) = K ++ [if gd i then some (keyC ⟨al,↑N,mr,ed⟩ (clsN ⟨al,↑N,mr,ed⟩ gd r) i) else none]) := by
           rw [Hid,List.take_add_one,hK,keysC_get _ (by simpa using hlt3)];rfl
          have hKg : Hid (∀ j,j < i → K[j]? = some (if gd j then some (keyC ⟨al,↑N,mr,ed⟩ (clsN ⟨al,↑N,mr,ed⟩ gd r) j) else none)) := fun j hj => by
           rw [← hK,List.getElem?_take_of_lt hj,keysC_get _ (by simp; omega)]
          clear hK hKl hKn;have S3 : (SepW w [eBlk gn 3 (iv (numO K ++ (0) :: List.replicate (N - (i + 1)) 0)),eBlk go 3 (iv ((clsN ⟨al,↑N,mr,ed⟩ gd r))),eBlk gg 4 (mkB N gd),eBlk w.heap.size 35 [.slice A1 al.length c1,.int .i64 ↑N,.slice A2 mr.length c2,.slice A3 ed.length c3]] wr) := by have h := S.out; rw [rep_succ N i hlt3] at h; exact h
          have g1 : wr.cell? ⟨gg,i,none⟩ = some (.bool (gd i)) := (BlkAt.cell (S3.out.get 2 rfl) i).trans (mkB_get hlt3);clear S;cases hgi : gd i
          · rw [hgi] at g1 hKs;have hKs2 : Hid ((keysC ⟨al,↑N,mr,ed⟩ gd (clsN ⟨al,↑N,mr,ed⟩ gd r)).take (i + 1) = K ++ [none]) := hKs.out;have S4 : (SepW w [eBlk gn 3 (iv (numO ((keysC ⟨al,↑N,mr,ed⟩ gd (clsN ⟨al,↑N,mr,ed⟩ gd r)).take (i + 1)) ++ List.replicate (N - (i + 1)) 0)),eBlk go 3 (iv ((clsN ⟨al,↑N,mr,ed⟩ gd r))),eBlk gg 4 (mkB N gd),eBlk w.heap.size 35 [.slice A1 al.length c1,.int .i64 ↑N,.slice A2 mr.length c2,.slice A3 ed.length c3]] wr) := by
             rw [hKs2.out,numO_snoc_none,List.append_assoc];exact S3.out
            have HC : Hid (cntO ((keysC ⟨al,↑N,mr,ed⟩ gd (clsN ⟨al,↑N,mr,ed⟩ gd r)).take (i + 1)) = cntO K) := by rw [Hid,hKs2.out,cntO_none]
            clear hKs S3;go_wp2_with fail
            go_roundw
            case rel => exact ⟨i + 1,by go_num,by rw [HC.out],by omega,S4.out⟩
            case measure => simp [intOf]; omega
          · rw [hgi] at g1 hKs;have hKs2 : Hid ((keysC ⟨al,↑N,mr,ed⟩ gd (clsN ⟨al,↑N,mr,ed⟩ gd r)).take (i + 1) = K ++ [some (keyC ⟨al,↑N,mr,ed⟩ (clsN ⟨al,↑N,mr,ed⟩ gd r) i)]) := hKs.out;have o1 : wr.cell? ⟨gn,i,none⟩ = some (.int .i64 0) := (BlkAt.cell (S3.out.get 0 rfl) i).trans (iv_mid _ _ _ _ HKN.out);have f1 : wr.frozen? ⟨gn,i,none⟩ = false := BlkAt.free (S3.out.get 0 rfl) i;have S4 : (SepW w [eBlk gn 3 (iv (numO K ++ (1 + (cntO K : Int)) :: List.replicate (N - (i + 1)) 0)),eBlk go 3 (iv ((clsN ⟨al,↑N,mr,ed⟩ gd r))),eBlk gg 4 (mkB N gd),eBlk w.heap.size 35 [.slice A1 al.length c1,.int .i64 ↑N,.slice A2 mr.length c2,.slice A3 ed.length c3]] (wr.setCell ⟨gn,i,none⟩ (.int .i64 (1 + (cntO K : Int))))) := by
             have h := S3.out.set 0 rfl i (.int .i64 (1 + (cntO K : Int)));rw [iv_set _ _ _ _ _ HKN.out] at h;exact h
            obtain ⟨kc,hkc⟩ : ∃ k,(cntO K : Int) = k := ⟨_,rfl⟩;have HKC := Lib.hid hkc;rw [hkc] at S4 ⊢;clear hkc hKs;go_wp2_with fail
            go_loopw [10] (fun v10 wrq => ∃ (k : Nat) (u : Int),v10 = .int .i64 ↑k ∧ k ≤ i ∧ Hid ((∀ j,j < k → gd j = true → keyC ⟨al,↑N,mr,ed⟩ (clsN ⟨al,↑N,mr,ed⟩ gd r) j ≠ keyC ⟨al,↑N,mr,ed⟩ (clsN ⟨al,↑N,mr,ed⟩ gd r) i) ∧ u = 1 + kc ∨ keyC ⟨al,↑N,mr,ed⟩ (clsN ⟨al,↑N,mr,ed⟩ gd r) i ∈ K.filterMap id ∧ u = 1 + ((idxK (seenK [] (K.filterMap id)) (keyC ⟨al,↑N,mr,ed⟩ (clsN ⟨al,↑N,mr,ed⟩ gd r) i) : Nat) : Int)) ∧ (SepW w [eBlk gn 3 (iv (numO K ++ (u) :: List.replicate (N - (i + 1)) 0)),eBlk go 3 (iv ((clsN ⟨al,↑N,mr,ed⟩ gd r))),eBlk gg 4 (mkB N gd),eBlk w.heap.size 35 [.slice A1 al.length c1,.int .i64 ↑N,.slice A2 mr.length c2,.slice A3 ed.length c3]] wrq)) (fun v10 _ => i - (intOf v10).toNat)
            case atStart => exact ⟨0,_,rfl,Nat.zero_le _,.inl ⟨fun j hj => absurd hj (Nat.not_lt_zero _),rfl⟩,S4.out⟩
            case round =>
             clear S3 S4 g1 o1 f1;obtain ⟨k,u,rfl,hki,HU,S⟩ := hrel;by_cases hlt4 : k < i
             · have a0 := ckC S.out 3 rfl 0 rfl;have a1 := ckC S.out 3 rfl 1 rfl;have a2 := ckC S.out 3 rfl 2 rfl;have a3 := ckC S.out 3 rfl 3 rfl;have hkN : k < N := by omega
               have g1 : wr.cell? ⟨gg,k,none⟩ = some (.bool (gd k)) := (BlkAt.cell (S.out.get 2 rfl) k).trans (mkB_get hkN);cases hgk : gd k
               · rw [hgk] at g1;have HU2 := HU.out;have HU3 : Hid ((∀ j,j < k + 1 → gd j = true → keyC ⟨al,↑N,mr,ed⟩ (clsN ⟨al,↑N,mr,ed⟩ gd r) j ≠ keyC ⟨al,↑N,mr,ed⟩ (clsN ⟨al,↑N,mr,ed⟩ gd r) i) ∧ u = 1 + kc ∨ keyC ⟨al,↑N,mr,ed⟩ (clsN ⟨al,↑N,mr,ed⟩ gd r) i ∈ K.filterMap id ∧ u = 1 + ((idxK (seenK [] (K.filterMap id)) (keyC ⟨al,↑N,mr,ed⟩ (clsN ⟨al,↑N,mr,ed⟩ gd r) i) : Nat) : Int)) := HU2.imp (fun h => ⟨fun j hj gj => by
                  by_cases e : j = k
                  · subst e; rw [hgk] at gj; cases gj
                  · exact h.1 j (by omega) gj,h.2⟩) id
                 clear HU HU2;go_wp2_with fail
                 go_roundw
                 case rel => exact ⟨k + 1,u,by go_num,by omega,HU3.out,S.out⟩
                 case measure => simp [intOf]; omega
               · rw [hgk] at g1;have HGK := Lib.hid hgk;have AL : Hid (Calls Tryd.prog 80 #[(⟨al,↑N,mr,ed⟩ : Au).val ⟨A1,c1,A2,c2,A3,c3⟩,.slice (some ⟨go,0,none⟩) N N,.int .i64 ↑i,.int .i64 ↑k] wr (Tells (keyC ⟨al,↑N,mr,ed⟩ (clsN ⟨al,↑N,mr,ed⟩ gd r) i = keyC ⟨al,↑N,mr,ed⟩ (clsN ⟨al,↑N,mr,ed⟩ gd r) k) wr)) := by
                  have h := alike_c ⟨al,↑N,mr,ed⟩ ⟨A1,c1,A2,c2,A3,c3⟩ (some ⟨go,0,none⟩) N (clsN ⟨al,↑N,mr,ed⟩ gd r) i k wr HR.out (HA.out.below S.out.below) (IntsAt.blk _ (S.out.get 1 rfl)) (clsN_len r) (by simp only; omega) (by simp only; omega);rw [clsN_len] at h;simp only [Int.toNat_natCast] at h;exact h
                 clear hgk;dsimp only [Au.val] at AL;go_wp2_with fail
                 refine AL.out.mono ?_;rintro e w3 ⟨b,rfl,hb',hb⟩;have HB := Lib.hid hb';have S5 := Lib.hid (S.out.next hb);clear hb hb' S a0 a1 a2 a3 g1 AL;cases b
                 · have HU3 : Hid ((∀ j,j < k + 1 → gd j = true → keyC ⟨al,↑N,mr,ed⟩ (clsN ⟨al,↑N,mr,ed⟩ gd r) j ≠ keyC ⟨al,↑N,mr,ed⟩ (clsN ⟨al,↑N,mr,ed⟩ gd r) i) ∧ u = 1 + kc ∨ keyC ⟨al,↑N,mr,ed⟩ (clsN ⟨al,↑N,mr,ed⟩ gd r) i ∈ K.filterMap id ∧ u = 1 + ((idxK (seenK [] (K.filterMap id)) (keyC ⟨al,↑N,mr,ed⟩ (clsN ⟨al,↑N,mr,ed⟩ gd r) i) : Nat) : Int)) := HU.out.imp (fun h => ⟨fun j hj gj => by
                    by_cases e : j = k
                    · subst e; exact fun h2 => by have := HB.out.2 h2.symm; cases this
                    · exact h.1 j (by omega) gj,h.2⟩) id
                   clear HU HB;go_wp2_with fail
                   go_roundw
                   case rel => exact ⟨k + 1,u,by go_num,by omega,HU3.out,S5.out⟩
                   case measure => simp [intOf]; omega
                 · have HE := Lib.hid (HB.out.1 rfl);have hKk : Hid (K[k]? = some (some (keyC ⟨al,↑N,mr,ed⟩ (clsN ⟨al,↑N,mr,ed⟩ gd r) i))) := by rw [Hid,hKg.out k hlt4,HGK.out,HE.out]; rfl
                   obtain ⟨u2,hu2⟩ : ∃ u2,1 + ((idxK (seenK [] (K.filterMap id)) (keyC ⟨al,↑N,mr,ed⟩ (clsN ⟨al,↑N,mr,ed⟩ gd r) i) : Nat) : Int) = u2 := ⟨_,rfl⟩;have HKK : Hid ((numO K)[k]? = some u2) := by rw [← hu2]; exact numO_get hKk.out
                   have HU3 : Hid (keyC ⟨al,↑N,mr,ed⟩ (clsN ⟨al,↑N,mr,ed⟩ gd r) i ∈ K.filterMap id ∧ u2 = 1 + ((idxK (seenK [] (K.filterMap id)) (keyC ⟨al,↑N,mr,ed⟩ (clsN ⟨al,↑N,mr,ed⟩ gd r) i) : Nat) : Int)) := ⟨fm_mem hKk.out,hu2.symm⟩;have o1 : w3.cell? ⟨gn,i,none⟩ = some (.int .i64 u) := (BlkAt.cell (S5.out.get 0 rfl) i).trans (iv_mid _ _ _ _ HKN.out);have o2 : w3.cell? ⟨gn,k,none⟩ = some (.int .i64 u2) := (BlkAt.cell (S5.out.get 0 rfl) k).trans (iv_pre HKK.out _);have f1 : w3.frozen? ⟨gn,i,none⟩ = false := BlkAt.free (S5.out.get 0 rfl) i;have S6 : (SepW w [eBlk gn 3 (iv (numO K ++ (u2) :: List.replicate (N - (i + 1)) 0)),eBlk go 3 (iv ((clsN ⟨al,↑N,mr,ed⟩ gd r))),eBlk gg 4 (mkB N gd),eBlk w.heap.size 35 [.slice A1 al.length c1,.int .i64 ↑N,.slice A2 mr.length c2,.slice A3 ed.length c3]] (w3.setCell ⟨gn,i,none⟩ (.int .i64 u2))) := by
                    have h := S5.out.set 0 rfl i (.int .i64 u2);rw [iv_set _ _ _ _ _ HKN.out] at h;exact h
                   clear HU HB HE hu2 S5;go_wp2_with fail
                   go_roundw
                   case rel => exact ⟨k + 1,u2,by go_num,by omega,.inr HU3.out,S6.out⟩
                   case measure => simp [intOf]; omega
             · obtain rfl : k = i := by omega
               have a1 := ckC S.out 3 rfl 1 rfl;have o1 : wr.cell? ⟨gn,k,none⟩ = some (.int .i64 u) := (BlkAt.cell (S.out.get 0 rfl) k).trans (iv_mid _ _ _ _ HKN.out);have hcase : (¬ keyC ⟨al,↑N,mr,ed⟩ (clsN ⟨al,↑N,mr,ed⟩ gd r) k ∈ K.filterMap id ∧ u = 1 + kc) ∨ (keyC ⟨al,↑N,mr,ed⟩ (clsN ⟨al,↑N,mr,ed⟩ gd r) k ∈ K.filterMap id ∧ u = 1 + ((idxK (seenK [] (K.filterMap id)) (keyC ⟨al,↑N,mr,ed⟩ (clsN ⟨al,↑N,mr,ed⟩ gd r) k) : Nat) : Int) ∧ u ≠ 1 + kc) := by
                rcases HU.out with ⟨h1,h2⟩ | ⟨h1,h2⟩
                · by_cases hm : keyC ⟨al,↑N,mr,ed⟩ (clsN ⟨al,↑N,mr,ed⟩ gd r) k ∈ K.filterMap id
                  · exfalso
                    obtain ⟨o,ho,hoe⟩ := List.mem_filterMap.1 hm;obtain rfl : o = some _ := hoe;obtain ⟨j,hj,hje⟩ := List.mem_iff_getElem.1 ho;have hjk : j < k := by have := HKN.out; rw [numO_len] at this; omega
                    have hg := hKg.out j hjk;rw [List.getElem?_eq_getElem hj,hje] at hg;cases hgj : gd j with
                    | false => rw [hgj] at hg; cases Option.some.inj hg
                    | true =>
                      rw [hgj] at hg;exact h1 j hjk hgj (Option.some.inj (Option.some.inj hg)).symm
                  · exact .inl ⟨hm,h2⟩
                · refine .inr ⟨h1,h2,?_⟩;have := idxK_lt (mem_seen.2 h1);have e : cntO K = (seenK [] (K.filterMap id)).length := rfl;have := HKC.out;omega
               rcases hcase with ⟨hm,rfl⟩ | ⟨hm,hu,hne⟩
               · have HC : Hid ((1 + (cntO ((keysC ⟨al,↑N,mr,ed⟩ gd (clsN ⟨al,↑N,mr,ed⟩ gd r)).take (k + 1)) : Int)) = 1 + kc + 1) := by rw [Hid,hKs2.out,cntO_some,if_neg hm,← HKC.out]; omega
                 have S6 : (SepW w [eBlk gn 3 (iv (numO ((keysC ⟨al,↑N,mr,ed⟩ gd (clsN ⟨al,↑N,mr,ed⟩ gd r)).take (k + 1)) ++ List.replicate (N - (k + 1)) 0)),eBlk go 3 (iv ((clsN ⟨al,↑N,mr,ed⟩ gd r))),eBlk gg 4 (mkB N gd),eBlk w.heap.size 35 [.slice A1 al.length c1,.int .i64 ↑N,.slice A2 mr.length c2,.slice A3 ed.length c3]] wr) := by
                  rw [hKs2.out,numO_snoc_some,if_neg hm,List.append_assoc,HKC.out];exact S.out
                 have hq : (1 + kc == 1 + kc) = true := by simp
                 have hw : IntKind.i64.wrap (1 + kc + 1) = 1 + kc + 1 := IntWalk.i64_in _ (by have h1 : cntO K ≤ K.length := cntO_le K; have h2 := HKN.out; rw [numO_len] at h2; have := HKC.out; omega);clear HU S hm;go_wp2_with fail
                 go_roundw
                 case rel => exact ⟨k + 1,by go_num,by rw [HC.out],by omega,S6.out⟩
                 case measure => simp [intOf]; omega
               · have HC : Hid ((1 + (cntO ((keysC ⟨al,↑N,mr,ed⟩ gd (clsN ⟨al,↑N,mr,ed⟩ gd r)).take (k + 1)) : Int)) = 1 + kc) := by rw [Hid,hKs2.out,cntO_some,if_pos hm,← HKC.out]
                 have S6 : (SepW w [eBlk gn 3 (iv (numO ((keysC ⟨al,↑N,mr,ed⟩ gd (clsN ⟨al,↑N,mr,ed⟩ gd r)).take (k + 1)) ++ List.replicate (N - (k + 1)) 0)),eBlk go 3 (iv ((clsN ⟨al,↑N,mr,ed⟩ gd r))),eBlk gg 4 (mkB N gd),eBlk w.heap.size 35 [.slice A1 al.length c1,.int .i64 ↑N,.slice A2 mr.length c2,.slice A3 ed.length c3]] wr) := by
                  rw [hKs2.out,numO_snoc_some,if_pos hm,List.append_assoc,← hu];exact S.out
                 have hq : (u == 1 + kc) = false := by simpa using hne
                 clear HU S hm hu hne;go_wp2_with fail
                 go_roundw
                 case rel => exact ⟨k + 1,by go_num,by rw [HC.out],by omega,S6.out⟩
                 case measure => simp [intOf]; omega
        · obtain rfl : N = i := by omega
          have S5 : (SepW w [eBlk gn 3 (iv ((clsN ⟨al,↑N,mr,ed⟩ gd (r + 1)))),eBlk gg 4 (mkB N gd),eBlk w.heap.size 35 [.slice A1 al.length c1,.int .i64 ↑N,.slice A2 mr.length c2,.slice A3 ed.length c3]] wr) := by
           have h := S.out;rw [List.take_of_length_le (by simp [keysC]),Nat.sub_self,List.replicate_zero,List.append_nil] at h;exact h.pick [0,2,3] (by decide)
          clear S;go_wp2_with fail
          go_roundw
          case rel => exact ⟨r + 1,gn,by go_num,rfl,by omega,S5.out⟩
          case measure => simp [intOf]; omega
     · obtain rfl : N = r := by omega
       have S5 := Lib.hid S.out.first;go_wp2_with fail
       go_ret
       exact ⟨_,rfl,S5.out⟩
end Go.Proofs.YtkifgffhoenaoaaDoor
