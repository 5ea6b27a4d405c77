/-
  What the row leans on.
-/
import Derived.Test.YtkifgffhoenaoaaGreatDoorBas01
import Derived.Test.YtkifgffhoenaoaaGreatDoorQqx02
import Derived.Test.YtkifgffhoenaoaaGreatDoorBas18
import Derived.Test.YtkifgffhoenaoaaGreatDoorBas15
import Derived.Test.YtkifgffhoenaoaaGreatDoorQqx05
import Derived.Test.YtkifgffhoenaoaaGreatDoorQqx06
import Derived.Test.YtkifgffhoenaoaaGreatDoorQqx04
import Derived.Test.YtkifgffhoenaoaaGreatDoorBas07
import Derived.BigQuiet
import Derived.Test.YtkifgffhoenaoaaGreatDoorQqx03
import Derived.Deep.CutBlock
set_option linter.unusedSimpArgs false
set_option linter.unusedVariables false
namespace Go.Proofs.YtkifgffhoenaoaaGreatDoor
open Go.RowKit
set_option maxRecDepth 100000
theorem isc1_c (n1 b1 : Nat) (a : Au) (x y : Int) (w : World) (c1 : w.cell? ⟨n1,0,none⟩ = some (.pointer (some ⟨b1,0,none⟩))) (z1 : n1 < w.heap.size) (h1 : Mach w b1 a) :
 Calls Tryz.prog 39 #[.agg #[.int .i64 x,.int .i64 y],.pointer (some ⟨n1,0,none⟩)] w (Ret (.bool (decide (0 ≤ x) && !decide (x ∈ a.mr))) w) := by
 obtain ⟨m1,m2,g1,g2,g3⟩ := h1.ex;have Hm : Hid (Mach3 w b1 m1 m2 a) := ⟨g1,g2,g3⟩;clear h1 g1 g2 g3;obtain ⟨d,hd⟩ : ∃ d,decide (x ∈ a.mr) = d := ⟨_,rfl⟩;rw [hd];go_enter Tryz.func39,Tryz.ntmps39
 go_upto_region 1 with fail
 refine wp_world (fun W => Sep w.heap.size w [eBlk w.heap.size 72 [.int .i64 x,.int .i64 y]] W) ?_ fun W S => ?_
 · exact (Sep.here w).alloc' _ [_,_] rfl rfl
 have S0 := Lib.hid S;clear S;by_cases hx : 0 ≤ x
 · have e0 : decide (0 ≤ x) = true := by simpa using hx
   have S1 := Lib.hid S0.out.drew;refine wp_region_held_drew (S := (fun V => Sep w.heap.size w [eBlk w.heap.size 72 [.int .i64 x,.int .i64 y]] V)) (by kernel_rfl) ?_ (fun hH => ?_)
   · exact S1.out.pick [0] (by decide)
   generalize hwz : W.drew = w1 at *;clear hwz;refine tkP 0 rfl (v := ?_) hH ?_;(try simp only [sx]);refine tkH 1 rfl (v := ?_) (by kernel_rfl) ?_ hH ?_;rotate_left
   · intro V hs_;have p0 := ckC hs_ 0 rfl 0 rfl;clear hs_;first | (go_simp; done) | (go_simp; with_reducible rfl)
   (try simp only [sx]);refine tkP 2 rfl (v := ?_) hH ?_;(try simp only [sx]);refine tkP 3 rfl (v := ?_) hH ?_;(try simp only [sx]);refine tkH 4 rfl (v := ?_) (by kernel_rfl) ?_ hH ?_;rotate_left
   · intro V hs_;have cn := old_cell (show Sep w.heap.size w _ V from hs_).below c1 z1;clear hs_;first | (go_simp; done) | (go_simp; with_reducible rfl)
   (try simp only [sx]);refine tkP 5 rfl (v := ?_) hH ?_;(try simp only [sx]);refine tkP 6 rfl (v := ?_) hH ?_;(try simp only [sx]);refine tkH 7 rfl (v := ?_) (by kernel_rfl) ?_ hH ?_;rotate_left
   · intro V hs_;have cm := ((Hm.out.below (show Sep w.heap.size w _ V from hs_).below).blk).cell 1;simp only [List.getElem?_cons_succ,List.getElem?_cons_zero] at cm;clear hs_;first | (go_simp; done) | (go_simp; with_reducible rfl)
   (try simp only [sx]);refine tkP 8 rfl (v := ?_) hH ?_;(try simp only [sx]);refine tkH 9 rfl (v := ?_) (by kernel_rfl) ?_ hH ?_;rotate_left
   · intro V hs_;have p0 := ckC hs_ 0 rfl 0 rfl;clear hs_;first | (go_simp; done) | (go_simp; with_reducible rfl)
   (try simp only [sx]);refine tkH 10 rfl (v := ?_) (by kernel_rfl) ?_ hH ?_;rotate_left
   · intro V hs_;have hl : (Instr.lookup 74 (.map (some m2)) (.int .i64 x) false).run Tryz.prog V = .ok (.bool (decide (x ∈ a.mr))) V := by
      have := (MapG.look okI Tryz.underlying74 zeroB (Hm.out.below (show Sep w.heap.size w _ V from hs_).below).f2 x).2;rw [setF_getD] at this;exact this
     rw [hd] at hl;clear hs_;first | (go_simp; done) | (go_simp; with_reducible rfl)
   (try simp only [sx]);refine tkP 11 rfl (v := ?_) hH ?_;(try simp only [sx]);refine tkP 12 rfl (v := ?_) hH ?_;(try simp only [sx]);refine tkP 13 rfl (v := ?_) hH ?_;(try simp only [sx]);refine wpAnyH_done (by kernel_rfl) ?_ _;go_wp2_with fail
   go_ret
   exact ⟨by first | (rw [e0]; rfl) | rfl,S1.out.below⟩
 · have e0 : decide (0 ≤ x) = false := by simpa using hx
   have S2 := Lib.hid S0.out.drew;refine wp_region_held_drew (S := (fun V => Sep w.heap.size w [eBlk w.heap.size 72 [.int .i64 x,.int .i64 y]] V)) (by kernel_rfl) ?_ (fun hH => ?_)
   · exact S2.out.pick [0] (by decide)
   generalize hwz : W.drew = w2 at *;clear hwz;refine tkP 0 rfl (v := ?_) hH ?_;(try simp only [sx]);refine tkH 1 rfl (v := ?_) (by kernel_rfl) ?_ hH ?_;rotate_left
   · intro V hs_;have p0 := ckC hs_ 0 rfl 0 rfl;clear hs_;first | (go_simp; done) | (go_simp; with_reducible rfl)
   (try simp only [sx]);refine tkP 2 rfl (v := ?_) hH ?_;(try simp only [sx]);refine tkP 3 rfl (v := ?_) hH ?_;(try simp only [sx]);refine wpAnyH_take (i := 4) (v := undef) rfl (by kernel_rfl) (by kernel_rfl) (by kernel_rfl) (fun _ _ _ h => h) (Or.inr ⟨?_,rfl⟩) hH ?_
   · kernel_rfl
   (try simp only [sx]);refine wpAnyH_take (i := 5) (v := undef) rfl (by kernel_rfl) (by kernel_rfl) (by kernel_rfl) (fun _ _ _ h => h) (Or.inr ⟨?_,rfl⟩) hH ?_
   · kernel_rfl
   (try simp only [sx]);refine wpAnyH_take (i := 6) (v := undef) rfl (by kernel_rfl) (by kernel_rfl) (by kernel_rfl) (fun _ _ _ h => h) (Or.inr ⟨?_,rfl⟩) hH ?_
   · kernel_rfl
   (try simp only [sx]);refine wpAnyH_take (i := 7) (v := undef) rfl (by kernel_rfl) (by kernel_rfl) (by kernel_rfl) (fun _ _ _ h => h) (Or.inr ⟨?_,rfl⟩) hH ?_
   · kernel_rfl
   (try simp only [sx]);refine wpAnyH_take (i := 8) (v := undef) rfl (by kernel_rfl) (by kernel_rfl) (by kernel_rfl) (fun _ _ _ h => h) (Or.inr ⟨?_,rfl⟩) hH ?_
   · kernel_rfl
   (try simp only [sx]);refine wpAnyH_take (i := 9) (v := undef) rfl (by kernel_rfl) (by kernel_rfl) (by kernel_rfl) (fun _ _ _ h => h) (Or.inr ⟨?_,rfl⟩) hH ?_
   · kernel_rfl
   (try simp only [sx]);refine wpAnyH_take (i := 10) (v := undef) rfl (by kernel_rfl) (by kernel_rfl) (by kernel_rfl) (fun _ _ _ h => h) (Or.inr ⟨?_,rfl⟩) hH ?_
   · kernel_rfl
   (try simp only [sx]);refine wpAnyH_take (i := 11) (v := undef) rfl (by kernel_rfl) (by kernel_rfl) (by kernel_rfl) (fun _ _ _ h => h) (Or.inr ⟨?_,rfl⟩) hH ?_
   · kernel_rfl
   (try simp only [sx]);refine tkP 12 rfl (v := ?_) hH ?_;(try simp only [sx]);refine tkP 13 rfl (v := ?_) hH ?_;(try simp only [sx]);refine wpAnyH_done (by kernel_rfl) ?_ _;go_wp2_with fail
   go_ret
   exact ⟨by first | (rw [e0]; rfl) | rfl,S2.out.below⟩

def gapL (a : Au) (u : List Int) : Prop := preL a u ∧ ¬ rn a u ∈ a.mr
theorem gap_of {a t : Au} (h : Trimd a t) (u : List Int) : LeadsTo (stp2 t Au.zero) (t.st,Au.zero.st) t.al (fun q => (fun q : Int × Int => decide (0 ≤ q.1) && !decide (q.1 ∈ t.mr)) q = true) u ↔ gapL a u := by
 rw [leads2 h.rt Au.zero_right,gapL,← trim_pre h,← h.lang u];constructor
 · rintro ⟨_,hp⟩;simp only [Bool.and_eq_true,decide_eq_true_eq,Bool.not_eq_true',decide_eq_false_iff_not] at hp;exact hp
 · intro hp;refine ⟨rn_events h.rt u hp.1,?_⟩;simp only [Bool.and_eq_true,decide_eq_true_eq,Bool.not_eq_true',decide_eq_false_iff_not];exact hp
def GivesIc (a : Au) (w : World) (e : Ending) (w' : World) : Prop := ∃ (A : Option Addr) (c : Nat) (l : List Int) (f : Bool),e = .returned (.tuple #[.slice A l.length c,.bool (!f),.int .i64 0]) ∧ Hid (IntsAt w' A l) ∧ Below w.heap.size w w' ∧ (f = true ∧ LeastW (gapL a) l ∨ f = false ∧ l = [] ∧ ∀ u,¬ gapL a u)
theorem isc_of {a t : Au} {l : List Int} {f : Bool} (h : Trimd a t) (hl : f = true ∧ LeastW (LeadsTo (stp2 t Au.zero) (t.st,Au.zero.st) t.al (fun q => (fun q : Int × Int => decide (0 ≤ q.1) && !decide (q.1 ∈ t.mr)) q = true)) l ∨ f = false ∧ l = [] ∧ ∀ u,¬ LeadsTo (stp2 t Au.zero) (t.st,Au.zero.st) t.al (fun q => (fun q : Int × Int => decide (0 ≤ q.1) && !decide (q.1 ∈ t.mr)) q = true) u) : f = true ∧ LeastW (gapL a) l ∨ f = false ∧ l = [] ∧ ∀ u,¬ gapL a u := by
 rcases hl with ⟨hf,hl⟩ | ⟨hf,he,hl⟩
 · exact .inl ⟨hf,hl.congr (gap_of h)⟩
 · exact .inr ⟨hf,he,fun u hu => hl u ((gap_of h u).2 hu)⟩
set_option maxHeartbeats 4000000 in
theorem isClosed_c (a : Au) (p : AuP) (w : World) (hr : a.Right) (hc : Caps a p) (hA : Au.At w a p) :
 Calls Tryz.prog 10 #[a.val p] w (GivesIc a w) := by
 have HR := Lib.hid hr;have HA := Lib.hid hA;have HC := Lib.hid hc;obtain ⟨A1,a1,A2,a2,A3,a3⟩ := p;(try dsimp only [Au.val] at *);clear hr hA hc;go_enter Tryz.func10,Tryz.ntmps10
 go_upto_region 1 with fail
 refine wp_world (fun W => Sep w.heap.size w [eBlk w.heap.size 31 [.slice A1 a.al.length a1,.int .i64 a.n,.slice A2 a.mr.length a2,.slice A3 a.ed.length a3]] W) ?_ fun W S => ?_
 · exact (Sep.here w).alloc' _ [_,_,_,_] rfl rfl
 have S0 := Lib.hid S;clear S;have x0 := ckC S0.out 0 rfl 0 rfl;have x1 := ckC S0.out 0 rfl 1 rfl;have x2 := ckC S0.out 0 rfl 2 rfl;have x3 := ckC S0.out 0 rfl 3 rfl;go_wp2_with fail
 refine (trim_c a ⟨A1,a1,A2,a2,A3,a3⟩ W HR.out HC.out (HA.out.below S0.out.below)).mono ?_;rintro e w1 ⟨t,⟨T1,t1,T2,t2,T3,t3⟩,rfl,TT,LT,FT⟩;have S1 := ckN S0.out TT.out;clear TT S0 x0 x1 x2 x3;dsimp only [Au.val];obtain ⟨tb,htb⟩ : ∃ g,g = w1.heap.size := ⟨_,rfl⟩;go_upto_region 4 with fail
 rw [← htb];refine wp_world (fun V => Sep w.heap.size w [eBlk tb 31 [.slice T1 t.al.length t1,.int .i64 t.n,.slice T2 t.mr.length t2,.slice T3 t.ed.length t3],eInts t.al (.slice T1 t.al.length t1),eInts t.mr (.slice T2 t.mr.length t2),eEds t.ed (.slice T3 t.ed.length t3),eBlk w.heap.size 31 [.slice A1 a.al.length a1,.int .i64 a.n,.slice A2 a.mr.length a2,.slice A3 a.ed.length a3]] V) (S1.out.alloc' _ [_,_,_,_] rfl htb) fun W2 S' => ?_;have S2 := Lib.hid S';clear S' S1 htb;have x0 := ckC S2.out 0 rfl 0 rfl;have x1 := ckC S2.out 0 rfl 1 rfl;have x2 := ckC S2.out 0 rfl 2 rfl;have x3 := ckC S2.out 0 rfl 3 rfl;have AT1 : Hid (Au.At W2 t ⟨T1,t1,T2,t2,T3,t3⟩) := Sep.au (es := [eBlk w.heap.size 31 [.slice A1 a.al.length a1,.int .i64 a.n,.slice A2 a.mr.length a2,.slice A3 a.ed.length a3]]) S2.out.drop1 LT.out;go_wp2_with fail
 refine (open_c t ⟨T1,t1,T2,t2,T3,t3⟩ W2 AT1.out).mono ?_;rintro e w3 ⟨bx,m1,m2,rfl,hz,HM,hb⟩;have S3 : (SepW w [eMach bx m1 m2 t,eBlk tb 31 [.slice T1 t.al.length t1,.int .i64 t.n,.slice T2 t.mr.length t2,.slice T3 t.ed.length t3],eInts t.al (.slice T1 t.al.length t1),eInts t.mr (.slice T2 t.mr.length t2),eEds t.ed (.slice T3 t.ed.length t3),eBlk w.heap.size 31 [.slice A1 a.al.length a1,.int .i64 a.n,.slice A2 a.mr.length a2,.slice A3 a.ed.length a3]] w3) := S2.out.newMach hb hz.1 hz.2.1 hz.2.2 HM.out;clear HM hb hz S2 AT1 x0 x1 x2 x3;obtain ⟨nx,hnx⟩ : ∃ g,g = w3.heap.size := ⟨_,rfl⟩;go_upto_region 5 with fail
 rw [← hnx];refine wp_world (fun V => Sep w.heap.size w [eBlk nx 68 [.pointer (some ⟨bx,0,none⟩)],eMach bx m1 m2 t,eBlk tb 31 [.slice T1 t.al.length t1,.int .i64 t.n,.slice T2 t.mr.length t2,.slice T3 t.ed.length t3],eInts t.al (.slice T1 t.al.length t1),eInts t.mr (.slice T2 t.mr.length t2),eEds t.ed (.slice T3 t.ed.length t3),eBlk w.heap.size 31 [.slice A1 a.al.length a1,.int .i64 a.n,.slice A2 a.mr.length a2,.slice A3 a.ed.length a3]] V) (S3.out.alloc' _ [_] rfl hnx) fun W5 S' => ?_;have S5 := Lib.hid S';clear S' S3 hnx;have S1 := Lib.hid S5.out.drew;refine wp_region_held_drew (S := (fun V => Sep w.heap.size w [eBlk nx 68 [.pointer (some ⟨bx,0,none⟩)],eBlk tb 31 [.slice T1 t.al.length t1,.int .i64 t.n,.slice T2 t.mr.length t2,.slice T3 t.ed.length t3]] V)) (by kernel_rfl) ?_ (fun hH => ?_)
 · exact S1.out.pick [0,2] (by decide)
 generalize hwz : W5.drew = w1 at *;clear hwz;refine tkP 0 rfl (v := ?_) hH ?_;(try simp only [sx]);refine tkH 1 rfl (v := ?_) (by kernel_rfl) ?_ hH ?_;rotate_left
 · intro V hs_;have b0 := ckC hs_ 1 rfl 0 rfl;clear hs_;first | (go_simp; done) | (go_simp; with_reducible rfl)
 (try simp only [sx]);refine tkH 2 rfl (v := ?_) (by kernel_rfl) ?_ hH ?_;rotate_left
 · intro V hs_;have b0 := ckC hs_ 0 rfl 0 rfl;clear hs_;first | (go_simp; done) | (go_simp; with_reducible rfl)
 (try simp only [sx]);refine tkP 3 rfl (v := ?_) hH ?_;(try simp only [sx]);refine tkP 5 rfl (v := ?_) hH ?_;(try simp only [sx]);refine rdH 4 rfl fun K hK => ?_;go_simp;refine (open_c Au.zero AuP.zero w1 (Au.zero_at w1)).mono ?_;rintro e w2 ⟨by_,m3,m4,rfl,hz,HM,hb⟩;have S2 : (SepW w [eMach by_ m3 m4 Au.zero,eBlk nx 68 [.pointer (some ⟨bx,0,none⟩)],eMach bx m1 m2 t,eBlk tb 31 [.slice T1 t.al.length t1,.int .i64 t.n,.slice T2 t.mr.length t2,.slice T3 t.ed.length t3],eInts t.al (.slice T1 t.al.length t1),eInts t.mr (.slice T2 t.mr.length t2),eEds t.ed (.slice T3 t.ed.length t3),eBlk w.heap.size 31 [.slice A1 a.al.length a1,.int .i64 a.n,.slice A2 a.mr.length a2,.slice A3 a.ed.length a3]] w2) := S1.out.newMach hb hz.1 hz.2.1 hz.2.2 HM.out;clear HM hb hz;refine hK.out _ _ (S2.out.pick [1,3] (by decide)) fun hH => ?_;clear hK K;(try simp only [sx]);refine rdH 6 rfl fun K hK => ?_;go_simp;refine (search_c T1 t1 t.al bx by_ t Au.zero 39 #[.pointer (some ⟨nx,0,none⟩)] (fun args w => by rfl) (fun q => decide (0 ≤ q.1) && !decide (q.1 ∈ t.mr)) w2 (S2.out.ints 4 rfl) (Nat.le_trans FT.out.rt.al.short (by decide)) FT.out.rt.al.incr FT.out.rt Au.zero_right ?_ (Mach3.mach (Sep.get S2.out 2 rfl)) (Mach3.mach (Sep.get S2.out 0 rfl)) ?_ (by simp)).mono ?_
 · have := FT.out.rt.n1; have := FT.out.rt.n0; simp only [Au.zero,Int.toNat_zero] at *; omega
 · intro V x y hb;exact isc1_c nx bx t x y V ((old_cell hb (BlkAt.cell (S2.out.get 1 rfl) 0) (BlkAt.lt (S2.out.get 1 rfl)))) (Nat.lt_of_lt_of_le (BlkAt.lt (S2.out.get 1 rfl)) hb.size) ((Mach3.mach (Sep.get S2.out 2 rfl)).below hb)
 rintro e w3 ⟨AW,cW,l,f,rfl,HW,hb,HL⟩;have S3 := Lib.hid (S2.out.next hb);clear hb;refine hK.out _ _ (S3.out.pick [1,3] (by decide)) fun hH => ?_;clear hK K;(try simp only [sx]);refine tkP 7 rfl (v := ?_) hH ?_;(try simp only [sx]);refine tkP 8 rfl (v := ?_) hH ?_;(try simp only [sx]);refine tkP 9 rfl (v := ?_) hH ?_;(try simp only [sx]);refine tkP 10 rfl (v := ?_) hH ?_;(try simp only [sx]);refine tkP 11 rfl (v := ?_) hH ?_;(try simp only [sx]);refine wpAnyH_done (by kernel_rfl) ?_ _;go_wp2_with fail
 refine bodyPost_ret (v := .tuple #[.slice AW l.length cW,.bool (!f),.int .i64 0]) (by simp [results,Tryz.results10,go_sem]) rfl ?_;exact ⟨AW,cW,l,f,rfl,HW.out,S3.out.below,isc_of FT.out HL.out⟩
section

def prsOf (l : List Pr) : List (Int × Int) := l.map Pr.pr
def nxP (a b : Au) (l : List Pr) (i : Nat) (e : Int) : Int := posK (prsOf l) (stp2 a b ((prsOf l).getD i (-1,-1)) e)
def okQ (a b : Au) (ch : Bool → Bool → Bool) (v : Int × Int) : Bool := ch (inV a v.1 2) (inV b v.2 2)
def mkP (a b : Au) (ch : Bool → Bool → Bool) (l : List Pr) (k : Nat) : List Int := ((List.range k).filter fun i => okQ a b ch ((prsOf l).getD i (-1,-1))).map fun (i : Nat) => (i : Int)
def combV (a b : Au) (ch : Bool → Bool → Bool) (l : List Pr) : Au := ⟨unionV a.al b.al,l.length,mkP a b ch l l.length,rowsG (unionV a.al b.al) (nxP a b l) l.length⟩
section
variable {a b : Au} {l : List Pr}
theorem PAll.live (ha : a.Right) (hb : b.Right) (h : PAll a b (unionV a.al b.al) l) : ¬ (-1,-1) ∈ prsOf l := by
 rcases h with ⟨_,_,rfl⟩ | h
 · simp [prsOf]
 · exact fun hm => h.lv _ hm rfl
theorem PAll.nd (h : PAll a b (unionV a.al b.al) l) : (prsOf l).Nodup := h.mem.2
theorem stp2_out (ha : a.Right) (hb : b.Right) {s : Int × Int} {e : Int} (he : ¬ e ∈ unionV a.al b.al) : stp2 a b s e = (-1,-1) := by
 have hm := mem_unionV _ a.al b.al (Nat.le_refl _) e;unfold stp2
 rw [← ha.next,← hb.next,ha.next_out (fun h => he (hm.2 (.inl h))),hb.next_out (fun h => he (hm.2 (.inr h)))]
theorem PAll.go (ha : a.Right) (hb : b.Right) (h : PAll a b (unionV a.al b.al) l) {s : Int × Int} (hs : s = (-1,-1) ∨ s ∈ prsOf l) (e : Int) : stp2 a b s e = (-1,-1) ∨ stp2 a b s e ∈ prsOf l := by
 rcases hs with rfl | hs
 · exact .inl (stp2_dead ha hb _ e rfl)
 · by_cases he : e ∈ unionV a.al b.al
   · rcases h with ⟨_,_,rfl⟩ | h
     · simp [prsOf] at hs
     · obtain ⟨j,hj,hjs⟩ := List.mem_iff_getElem.1 hs;have hj' : (l.map Pr.pr)[j]? = some s := by rw [← hjs]; exact List.getElem?_eq_getElem hj
       obtain ⟨w,hw⟩ := h.bf.word hj';obtain ⟨t,ht,hte⟩ := List.mem_iff_getElem.1 he;have hjl : j < l.length := by simpa [prsOf] using hj
       rcases h.bf.dn j s w t e hj' hw (by rw [List.getElem?_eq_getElem ht,hte]) (.inl hjl) with g | ⟨j',w',h1,_⟩
       · exact .inl g
       · exact .inr (List.mem_of_getElem? h1)
   · exact .inl (stp2_out ha hb he)
theorem PAll.start (ha : a.Right) (hb : b.Right) (h : PAll a b (unionV a.al b.al) l) : (a.st,b.st) = (-1,-1) ∨ (a.st,b.st) ∈ prsOf l := by
 rcases h with ⟨h1,h2,rfl⟩ | h
 · left; unfold Au.st; rw [if_pos h1,if_pos h2]
 · right
   exact List.mem_of_getElem? h.bf.z
theorem PAll.fold (ha : a.Right) (hb : b.Right) (h : PAll a b (unionV a.al b.al) l) : ∀ (w : List Int),(rn a w,rn b w) = (-1,-1) ∨ (rn a w,rn b w) ∈ prsOf l := by
 intro w;rw [← fold2 ha hb w];refine snoc_ind (P := fun w => w.foldl (stp2 a b) (a.st,b.st) = (-1,-1) ∨ w.foldl (stp2 a b) (a.st,b.st) ∈ prsOf l) (h.start ha hb) (fun w e ih => ?_) w;rw [List.foldl_append];exact h.go ha hb ih e
end
end
theorem marked9_e (a : Au) (p : AuP) (s : Int) (r : Bool) (w : World) (h2 : IntsAt w p.A2 a.mr) (l2 : a.mr.length ≤ 140737488355328) (h : decide (s ∈ a.mr) = r) : Calls Tryz.prog 42 #[a.val p,.int .i64 s] w (Ret (.bool r) w) := h ▸ (marked9_c a p s w h2 l2).mono fun e w' ⟨b,he,hb,hB⟩ => ⟨by rw [he]; congr 2; cases b <;> simp_all,hB⟩
theorem PAll.wlen {a b : Au} {evs : List Int} {l : List Pr} (h : PAll a b evs l) {j : Nat} {p : Pr} (hp : l[j]? = some p) : p.w.length ≤ j := by
 rcases h with ⟨_,_,rfl⟩ | h
 · simp at hp
 · exact h.word hp
def opP (a : Au) (q : Int × Int) : Bool := decide (0 ≤ q.1) && (gdN a a.n.toNat q.1.toNat && !decide (q.1 ∈ a.mr))
theorem opP_nat {a : Au} {N d : Nat} {y : Int} (h : a.n = (N : Int)) : opP a ((d : Int),y) = (gdN a N d && !decide ((d : Int) ∈ a.mr)) := by
 simp [opP,h]
theorem op_iff {a : Au} (hr : a.Right) (u : List Int) : LeadsTo (stp2 a Au.zero) (a.st,Au.zero.st) (unionV a.al Au.zero.al) (fun q => opP a q = true) u ↔ gapL a u := by
 have hn0 := hr.n0;rw [show Au.zero.al = [] from rfl,union_nil hr.al.incr,leads2 hr Au.zero_right,gapL,pre_good];simp only [opP,Bool.and_eq_true,decide_eq_true_eq,Bool.not_eq_true',decide_eq_false_iff_not];constructor
 · rintro ⟨_,h1,h2,h3⟩;rcases hr.rn_cases u with k | ⟨k1,k2⟩
   · omega
   · have := (gdN_fin hr (rn a u).toNat (by omega)).1 h2;rw [Int.toNat_of_nonneg k1] at this;exact ⟨this,h3⟩
 · rintro ⟨h1,h2⟩;rcases hr.rn_cases u with k | ⟨k1,k2⟩
   · obtain ⟨v,hv⟩ := h1;rw [k,runV_neg _ (by decide)] at hv;have := (hr.mem hv).1; omega
   · refine ⟨rn_events hr u k1,k1,(gdN_fin hr _ (by omega)).2 ?_,h2⟩;rw [Int.toNat_of_nonneg k1]; exact h1
theorem pa_rg {a : Au} (hr : a.Right) {l : List Pr} (h : PAll a Au.zero (unionV a.al Au.zero.al) l) {i : Nat} {p : Pr} (hp : l[i]? = some p) : ∃ d : Nat,p.x = (d : Int) ∧ (d : Int) < a.n := by
 have hm := List.mem_of_getElem? hp;have h1 := h.mem.1 p hm;have h2 := h.live hr Au.zero_right;have hz : Au.zero.n = 0 := rfl;have hy : p.y = -1 := by rcases h1.2 with g | ⟨g1,g2⟩; exact g; (rw [hz] at g2; omega)
 rcases h1.1 with g | ⟨g1,g2⟩
 · exact absurd (List.mem_map.2 ⟨p,hm,show p.pr = (-1,-1) from by show (p.x,p.y) = _; rw [hy]; exact congrArg (fun z => (z,(-1 : Int))) g⟩) h2
 · exact ⟨p.x.toNat,(Int.toNat_of_nonneg g1).symm,by have e := Int.toNat_of_nonneg (show 0 ≤ p.x from g1); rw [e]; exact g2⟩
def GivesOp (a : Au) (w : World) (e : Ending) (w' : World) : Prop := ∃ (A : Option Addr) (c : Nat) (l : List Int) (f : Bool),e = .returned (.tuple #[.slice A l.length c,.bool f]) ∧ Hid (IntsAt w' A l) ∧ Below w.heap.size w w' ∧ l.length ≤ 1000000 ∧ (f = true ∧ LeastW (gapL a) l ∨ f = false ∧ l = [] ∧ ∀ u,¬ gapL a u)
set_option maxHeartbeats 16000000 in
theorem open9_c (a : Au) (p : AuP) (w : World) (hr : a.Right) (hA : Au.At w a p) :
 Calls Tryz.prog 11 #[a.val p] w (GivesOp a w) := by
 have HRA := Lib.hid hr;have HA := Lib.hid hA;have HOP := Lib.hid (op_iff hr);have hN : (a.n.toNat + 1) * 1 ≤ 1000000 := by have := hr.n1; omega
 have hN2 : (a.n.toNat + 1) * (Au.zero.n.toNat + 1) ≤ 1000000 := hN;have h0 := hr.n0;obtain ⟨al,n,mr,ed⟩ := a;obtain ⟨A1,c1,A2,c2,A3,c3⟩ := p;(try dsimp only [Au.val] at *);obtain ⟨N,rfl⟩ := Int.eq_ofNat_of_zero_le h0;clear hr hA h0;have HD : Hid (¬ opP ⟨al,↑N,mr,ed⟩ (-1,-1) = true) := by simp [Hid,opP]
 obtain ⟨gd,hgd⟩ : ∃ gd,gdN ⟨al,↑N,mr,ed⟩ N = gd := ⟨_,rfl⟩;have HPX : Hid (∀ (d : Nat) (y : Int),opP ⟨al,↑N,mr,ed⟩ ((d : Int),y) = (gd d && !decide ((d : Int) ∈ mr))) := fun d y => by rw [opP_nat rfl,hgd]
 have HGE := Lib.hid hgd;clear hgd;go_enter Tryz.func11,Tryz.ntmps11
 go_upto_region 1 with fail
 refine wp_world (fun W => Sep w.heap.size w [eBlk w.heap.size 31 [.slice A1 al.length c1,.int .i64 ↑N,.slice A2 mr.length c2,.slice A3 ed.length c3]] W) ?_ fun W S => ?_
 · exact (Sep.here w).alloc' _ [_,_,_,_] rfl rfl
 have S0 := Lib.hid S;clear S;have a0 := ckC S0.out 0 rfl 0 rfl;have a1 := ckC S0.out 0 rfl 1 rfl;have a2 := ckC S0.out 0 rfl 2 rfl;have a3 := ckC S0.out 0 rfl 3 rfl;go_wp2_with fail
 refine (core9_c ⟨al,↑N,mr,ed⟩ ⟨A1,c1,A2,c2,A3,c3⟩ W HRA.out (HA.out.below S0.out.below)).mono ?_;rintro e w1 ⟨gg,rfl,T⟩;simp only [Int.toNat_natCast,HGE.out] at T ⊢;have S1 := ckN S0.out T.out;clear T S0 a0 a1 a2 a3;go_upto_region 2 with fail
 go_cut [5] (fun v wx => ∃ (raw : List PrV) (l : List Pr) (AR : Option Addr) (cR : Nat) (fs : List Nat),v = .slice AR raw.length cR ∧ Hid (PAll ⟨al,↑N,mr,ed⟩ Au.zero (unionV al Au.zero.al) l) ∧ (SepW w [eWds fs raw l,eOwn PrV.cells 3 83 raw (.slice AR raw.length cR),eBlk gg 4 (mkB N gd),eBlk w.heap.size 31 [.slice A1 al.length c1,.int .i64 ↑N,.slice A2 mr.length c2,.slice A3 ed.length c3]] wx))
 case first =>
  have S1 := Lib.hid S1.out.drew;refine wp_region_held_drew (S := (fun V => Sep w.heap.size w [eBlk w.heap.size 31 [.slice A1 al.length c1,.int .i64 ↑N,.slice A2 mr.length c2,.slice A3 ed.length c3]] V)) (by kernel_rfl) ?_ (fun hH => ?_)
  · exact S1.out.pick [1] (by decide)
  generalize hwz : w1.drew = w1 at *;clear hwz;refine tkH 0 rfl (v := ?_) (by kernel_rfl) ?_ hH ?_;rotate_left
  · intro V hs_;have a0 := ckC hs_ 0 rfl 0 rfl;have a1 := ckC hs_ 0 rfl 1 rfl;have a2 := ckC hs_ 0 rfl 2 rfl;have a3 := ckC hs_ 0 rfl 3 rfl;clear hs_;first | (go_simp; done) | (go_simp; with_reducible rfl)
  (try simp only [sx]);refine rdH 1 rfl fun K hK => ?_;go_simp;refine (Empty_c none 0 [] w1 SlAt.nil (by simp) (fun _ => ⟨rfl,rfl⟩)).mono ?_;rintro e w2 ⟨AE,cE,rfl,HO,hb⟩;have S2 := Lib.hid (S1.out.next hb);have HZ : Hid (Au.At w2 Au.zero ⟨AE,cE,none,0,none,0⟩) := ⟨OwnI.ints HO,SlAt.nil,SlAt.nil,by simp [Au.zero],by simp [Au.zero],by simp [Au.zero]⟩;clear hb HO;refine hK.out _ _ (S2.out.pick [1] (by decide)) fun hH => ?_;clear hK K;(try simp only [sx]);refine rdH 2 rfl fun K hK => ?_;go_simp;refine (pairs_c ⟨al,↑N,mr,ed⟩ Au.zero ⟨A1,c1,A2,c2,A3,c3⟩ ⟨AE,cE,none,0,none,0⟩ w2 HRA.out Au.zero_right (HA.out.below S2.out.below) HZ.out hN2).mono ?_;rintro e w3 ⟨raw,l,AR,cR,fs,rfl,T,PL,PS⟩;have S3 := ckN S2.out T.out;clear T PS;refine hK.out _ _ (S3.out.pick [3] (by decide)) fun hH => ?_;clear hK K;(try simp only [sx]);refine tkP 3 rfl (v := ?_) hH ?_;(try simp only [sx]);refine wpAnyH_done (by kernel_rfl) ?_ _;go_wp2_with fail
  go_meet
  exact ⟨raw,l,AR,cR,fs,rfl,PL.out,S3.out⟩
 case rest =>
  clear S1;obtain ⟨raw,l,AR,cR,fs,rfl,PL,S1⟩ := hcut;have hrl : Hid (raw.length = l.length) := (S1.out.get 0 rfl).1;have hlen : raw.length ≤ 1000000 := by rw [hrl.out]; exact Nat.le_trans (PL.out.len HRA.out Au.zero_right) hN2
  go_wp2_with fail
  go_loopw [6] (fun x wr => ∃ (i : Nat),x = .int .i64 ↑i ∧ i ≤ raw.length ∧ Hid (∀ j q,j < i → l[j]? = some q → ¬ opP ⟨al,↑N,mr,ed⟩ q.pr = true) ∧ (SepW w [eWds fs raw l,eOwn PrV.cells 3 83 raw (.slice AR raw.length cR),eBlk gg 4 (mkB N gd),eBlk w.heap.size 31 [.slice A1 al.length c1,.int .i64 ↑N,.slice A2 mr.length c2,.slice A3 ed.length c3]] wr)) (fun x _ => raw.length - (intOf x).toNat)
  case atStart => exact ⟨0,rfl,Nat.zero_le _,fun j q h => absurd h (Nat.not_lt_zero _),S1.out⟩
  case round =>
   clear S1;obtain ⟨i,rfl,hi,HNO,S⟩ := hrel;by_cases hlt : i < raw.length
   · obtain ⟨gR,oR,r,rfl,hr⟩ := S.out.prs 1 rfl hlt;obtain ⟨p,hp⟩ : ∃ p,l[i]? = some p := ⟨_,List.getElem?_eq_getElem (by rw [← hrl.out]; exact hlt)⟩;obtain ⟨rx,ry,hwn,hwd⟩ := (S.out.get 0 rfl).2.2 i r p hr hp;obtain ⟨d,hd,hdn⟩ := pa_rg HRA.out PL.out hp;have hdN : d < N := by have h := hdn; dsimp only at h; omega
     obtain ⟨rX,rY,rA,rn_,rc⟩ := r;dsimp only at rx ry hwn hwd;have HXD := Lib.hid hd;rw [hd] at rx;subst rx ry hwn;obtain ⟨gq,hgq⟩ : ∃ x,gd d = x := ⟨_,rfl⟩;obtain ⟨mk,hmk⟩ : ∃ x,decide ((d : Int) ∈ mr) = x := ⟨_,rfl⟩;have HGQ := Lib.hid hgq;have HMK := Lib.hid hmk;have hpw : p.w.length ≤ i := PL.out.wlen hp;have hwl : p.w.length ≤ 1000000 := by omega
     have HPP : Hid (opP ⟨al,↑N,mr,ed⟩ p.pr = (gq && !mk)) := by
      have h := HPX.out d p.y;rw [hgq,hmk] at h;rw [← h,← hd]; rfl
     clear hgq hmk hd hdn hwd;have S5 := S;clear S;go_upto_region 6 with fail
     go_cut [35] (fun x wx => x = .bool (gq && !mk) ∧ (SepW w [eWds fs raw l,eOwn PrV.cells 3 83 raw (.slice (some ⟨gR,oR,none⟩) raw.length cR),eBlk gg 4 (mkB N gd),eBlk w.heap.size 31 [.slice A1 al.length c1,.int .i64 ↑N,.slice A2 mr.length c2,.slice A3 ed.length c3]] wx))
     case first =>
      cases gq
      · skip;have S4 := Lib.hid S5.out.drew;refine wp_region_held_drew (S := (fun V => Sep w.heap.size w [eOwn PrV.cells 3 83 raw (.slice (some ⟨gR,oR,none⟩) raw.length cR),eBlk gg 4 (mkB N gd),eBlk w.heap.size 31 [.slice A1 al.length c1,.int .i64 ↑N,.slice A2 mr.length c2,.slice A3 ed.length c3]] V)) (by kernel_rfl) ?_ (fun hH => ?_)
        · exact S4.out.pick [1,2,3] (by decide)
        generalize hwz : wr.drew = w4 at *;clear hwz;refine tkP 0 rfl (v := ?_) hH ?_;(try simp only [sx]);refine tkP 1 rfl (v := ?_) hH ?_;(try simp only [sx]);refine tkP 2 rfl (v := ?_) hH ?_;(try simp only [sx]);refine tkP 3 rfl (v := ?_) hH ?_;(try simp only [sx]);refine tkP 4 rfl (v := ?_) hH ?_;(try simp only [sx]);refine tkH 5 rfl (v := ?_) (by kernel_rfl) ?_ hH ?_;rotate_left
        · intro V hs_;have b0 := (Sep.prAt (show Sep w.heap.size w _ V from hs_) 0 rfl hr).1;clear hs_;first | (go_simp; done) | (go_simp; with_reducible rfl)
        (try simp only [sx]);refine tkP 6 rfl (v := ?_) hH ?_;(try simp only [sx]);refine tkH 7 rfl (v := ?_) (by kernel_rfl) ?_ hH ?_;rotate_left
        · intro V hs_;have g1 := (BlkAt.cell (Sep.get (show Sep w.heap.size w _ V from hs_) 1 rfl) d).trans (mkB_get hdN);rw [HGQ.out] at g1;clear hs_;first | (go_simp; done) | (go_simp; with_reducible rfl)
        (try simp only [sx]);refine tkP 8 rfl (v := ?_) hH ?_;(try simp only [sx]);refine wpAnyH_take (i := 9) (v := undef) rfl (by kernel_rfl) (by kernel_rfl) (by kernel_rfl) (fun _ _ _ h => h) (Or.inr ⟨?_,rfl⟩) hH ?_
        · kernel_rfl
        (try simp only [sx]);refine wpAnyH_take (i := 10) (v := undef) rfl (by kernel_rfl) (by kernel_rfl) (by kernel_rfl) (fun _ _ _ h => h) (Or.inr ⟨?_,rfl⟩) hH ?_
        · kernel_rfl
        (try simp only [sx]);refine wpAnyH_take (i := 11) (v := undef) rfl (by kernel_rfl) (by kernel_rfl) (by kernel_rfl) (fun _ _ _ h => h) (Or.inr ⟨?_,rfl⟩) hH ?_
        · kernel_rfl
        (try simp only [sx]);refine wpAnyH_take (i := 12) (v := undef) rfl (by kernel_rfl) (by kernel_rfl) (by kernel_rfl) (fun _ _ _ h => h) (Or.inr ⟨?_,rfl⟩) hH ?_
        · kernel_rfl
        (try simp only [sx]);refine wpAnyH_take (i := 13) (v := undef) rfl (by kernel_rfl) (by kernel_rfl) (by kernel_rfl) (fun _ _ _ h => h) (Or.inr ⟨?_,rfl⟩) hH ?_
        · kernel_rfl
        (try simp only [sx]);refine wpAnyH_take (i := 14) (v := undef) rfl (by kernel_rfl) (by kernel_rfl) (by kernel_rfl) (fun _ _ _ h => h) (Or.inr ⟨?_,rfl⟩) hH ?_
        · kernel_rfl
        (try simp only [sx]);refine wpAnyH_take (i := 15) (v := undef) rfl (by kernel_rfl) (by kernel_rfl) (by kernel_rfl) (fun _ _ _ h => h) (Or.inr ⟨?_,rfl⟩) hH ?_
        · kernel_rfl
        (try simp only [sx]);refine wpAnyH_take (i := 16) (v := undef) rfl (by kernel_rfl) (by kernel_rfl) (by kernel_rfl) (fun _ _ _ h => h) (Or.inr ⟨?_,rfl⟩) hH ?_
        · kernel_rfl
        (try simp only [sx]);refine tkP 17 rfl (v := ?_) hH ?_;(try simp only [sx]);refine wpAnyH_done (by kernel_rfl) ?_ _;go_wp2_with fail
        go_meet
        exact ⟨by simp,S4.out⟩
      · skip;have S5 := Lib.hid S5.out.drew;refine wp_region_held_drew (S := (fun V => Sep w.heap.size w [eOwn PrV.cells 3 83 raw (.slice (some ⟨gR,oR,none⟩) raw.length cR),eBlk gg 4 (mkB N gd),eBlk w.heap.size 31 [.slice A1 al.length c1,.int .i64 ↑N,.slice A2 mr.length c2,.slice A3 ed.length c3]] V)) (by kernel_rfl) ?_ (fun hH => ?_)
        · exact S5.out.pick [1,2,3] (by decide)
        generalize hwz : wr.drew = w5 at *;clear hwz;refine tkP 0 rfl (v := ?_) hH ?_;(try simp only [sx]);refine tkP 1 rfl (v := ?_) hH ?_;(try simp only [sx]);refine tkP 2 rfl (v := ?_) hH ?_;(try simp only [sx]);refine tkP 3 rfl (v := ?_) hH ?_;(try simp only [sx]);refine tkP 4 rfl (v := ?_) hH ?_;(try simp only [sx]);refine tkH 5 rfl (v := ?_) (by kernel_rfl) ?_ hH ?_;rotate_left
        · intro V hs_;have b0 := (Sep.prAt (show Sep w.heap.size w _ V from hs_) 0 rfl hr).1;clear hs_;first | (go_simp; done) | (go_simp; with_reducible rfl)
        (try simp only [sx]);refine tkP 6 rfl (v := ?_) hH ?_;(try simp only [sx]);refine tkH 7 rfl (v := ?_) (by kernel_rfl) ?_ hH ?_;rotate_left
        · intro V hs_;have g1 := (BlkAt.cell (Sep.get (show Sep w.heap.size w _ V from hs_) 1 rfl) d).trans (mkB_get hdN);rw [HGQ.out] at g1;clear hs_;first | (go_simp; done) | (go_simp; with_reducible rfl)
        (try simp only [sx]);refine tkP 8 rfl (v := ?_) hH ?_;(try simp only [sx]);refine tkH 9 rfl (v := ?_) (by kernel_rfl) ?_ hH ?_;rotate_left
        · intro V hs_;have a0 := ckC hs_ 2 rfl 0 rfl;have a1 := ckC hs_ 2 rfl 1 rfl;have a2 := ckC hs_ 2 rfl 2 rfl;have a3 := ckC hs_ 2 rfl 3 rfl;clear hs_;first | (go_simp; done) | (go_simp; with_reducible rfl)
        (try simp only [sx]);refine tkP 10 rfl (v := ?_) hH ?_;(try simp only [sx]);refine tkP 11 rfl (v := ?_) hH ?_;(try simp only [sx]);refine tkP 12 rfl (v := ?_) hH ?_;(try simp only [sx]);refine tkP 13 rfl (v := ?_) hH ?_;(try simp only [sx]);refine tkH 14 rfl (v := ?_) (by kernel_rfl) ?_ hH ?_;rotate_left
        · intro V hs_;have b0 := (Sep.prAt (show Sep w.heap.size w _ V from hs_) 0 rfl hr).1;clear hs_;first | (go_simp; done) | (go_simp; with_reducible rfl)
        (try simp only [sx]);refine rdH 15 rfl fun K hK => ?_;go_simp;refine (marked9_e ⟨al,↑N,mr,ed⟩ ⟨A1,c1,A2,c2,A3,c3⟩ (d : Int) mk w5 (HA.out.below S5.out.below).mr HA.out.lmk HMK.out).mono ?_;rintro e w6 ⟨rfl,hb⟩;have S6 := Lib.hid (S5.out.next hb);clear hb;refine hK.out _ _ (S6.out.pick [1,2,3] (by decide)) fun hH => ?_;clear hK K;(try simp only [sx]);refine tkP 16 rfl (v := ?_) hH ?_;(try simp only [sx]);refine tkP 17 rfl (v := ?_) hH ?_;(try simp only [sx]);refine wpAnyH_done (by kernel_rfl) ?_ _;go_wp2_with fail
        go_meet
        exact ⟨by simp,S6.out⟩
     case rest =>
      obtain ⟨rfl,S6⟩ := hcut;have HWE : Hid (IntsAt wc rA p.w) := by
       obtain ⟨_,_,h⟩ := (S6.out.get 0 rfl).2.2 i _ p hr hp;exact WdAt.ints h (S6.out.get 0 rfl).2.1
      have c2' := (S6.out.prAt 1 rfl hr).2.2;clear S5 HGQ HMK;obtain ⟨pp,hpp⟩ : ∃ x,(gq && !mk) = x := ⟨_,rfl⟩;rw [hpp] at HPP ⊢;clear hpp;cases pp
      · have HZ : Hid (∀ j q,j < i + 1 → l[j]? = some q → ¬ opP ⟨al,↑N,mr,ed⟩ q.pr = true) := fun j q hj hq => by
         by_cases e : j = i
         · subst e;rw [hp] at hq; cases hq;rw [HPP.out]; simp
         · exact HNO.out j q (by omega) hq
        clear HNO;go_wp2_with fail
        go_roundw
        case rel => exact ⟨i + 1,by go_num,by omega,HZ.out,S6.out⟩
        case measure => simp [intOf]; omega
      · have HY : Hid (LeastW (gapL ⟨al,↑N,mr,ed⟩) p.w) := (PL.out.least HRA.out Au.zero_right (P := fun q => opP ⟨al,↑N,mr,ed⟩ q = true) HD.out HNO.out hp HPP.out).congr HOP.out;clear HNO;go_wp2_with fail
        refine bodyPost_ret (v := .tuple #[.slice rA p.w.length rc,.bool true]) (by simp [results,Tryz.results11,go_sem]) rfl ?_;exact ⟨rA,rc,p.w,true,rfl,HWE.out,S6.out.below,hwl,.inl ⟨rfl,HY.out⟩⟩
   · obtain rfl : i = raw.length := by omega
     have HZ : Hid (∀ u,¬ gapL ⟨al,↑N,mr,ed⟩ u) := fun u hu => PL.out.none_ HRA.out Au.zero_right (P := fun q => opP ⟨al,↑N,mr,ed⟩ q = true) HD.out (fun j q hq => HNO.out j q (by have := (List.getElem?_eq_some_iff.1 hq).1; rw [hrl.out]; exact this) hq) u ((HOP.out u).2 hu);clear HNO;go_wp2_with fail
     refine bodyPost_ret (v := .tuple #[.slice none 0 0,.bool false]) (by simp [results,Tryz.results11,go_sem]) rfl ?_;exact ⟨none,0,[],false,rfl,SlAt.nil,S.out.below,by simp,.inr ⟨rfl,rfl,HZ.out⟩⟩
set_option maxHeartbeats 1000000 in
theorem sameI3_c (A1 A2 : Option Addr) (c1 c2 : Nat) (l : List Int) (w : World) (h1 : IntsAt w A1 l) (h2 : IntsAt w A2 l) (n1 : l.length ≤ 140737488355328) :
 Calls Tryz.prog 43 #[.slice A1 l.length c1,.slice A2 l.length c2] w (Ret (.bool true) w) := by
 have H1 := Lib.hid h1;have H2 := Lib.hid h2;clear h1 h2;go_enter Tryz.func43,Tryz.ntmps43
 go_wp2
 go_loopw [5] (fun i wr => ∃ k : Nat,k ≤ l.length ∧ i = .int .i64 k ∧ Hid (Below w.heap.size w wr)) (fun i _ => l.length - (intOf i).toNat)
 case atStart => exact ⟨0,by omega,rfl,Below.refl _ _⟩
 case round =>
  obtain ⟨k,hk,rfl,BW⟩ := hrel;by_cases hlt : k < l.length
  · obtain ⟨b,off,x,rfl,hb,hx,e0⟩ := IntsAt.at (H1.out.below IntE.stays BW.out) hlt;obtain ⟨b2,off2,y,rfl,hb2,hy,g0⟩ := IntsAt.at (H2.out.below IntE.stays BW.out) hlt;obtain rfl : x = y := Option.some.inj (hx.symm.trans hy);clear hx hy;go_wp2_with fail
    go_quiet (fail)
    go_wp2
    go_roundw
    case rel => exact ⟨k + 1,by omega,by go_num,BW.out.draws _⟩
    case measure => simp [intOf]; omega
  · obtain rfl : k = l.length := by omega
    go_wp2
    go_ret
    exact ⟨rfl,BW.out⟩
set_option maxHeartbeats 4000000 in
theorem same3_c (a : Au) (p q : AuP) (w : World) (hA : Au.At w a p) (hB : Au.At w a q) :
 Calls Tryz.prog 12 #[a.val p,a.val q] w (Ret (.bool true) w) := by
 have HA := Lib.hid hA;have HB := Lib.hid hB;obtain ⟨al,n,mr,ed⟩ := a;obtain ⟨A1,c1,A2,c2,A3,c3⟩ := p;obtain ⟨B1,d1,B2,d2,B3,d3⟩ := q;(try dsimp only [Au.val] at *);have hal := hA.lal;have hml := hA.lmk;have hel := hA.led;dsimp only at hal hml hel;clear hA hB;have q0 : Hid (BlkAt ((w.alloc (.cells #[.slice A1 al.length c1,.int .i64 n,.slice A2 mr.length c2,.slice A3 ed.length c3] 31)).alloc (.cells #[.slice B1 al.length d1,.int .i64 n,.slice B2 mr.length d2,.slice B3 ed.length d3] 31)) w.heap.size 31 [.slice A1 al.length c1,.int .i64 n,.slice A2 mr.length c2,.slice A3 ed.length c3]) := (BlkAt.new w _ [_,_,_,_]).alloc _;have q1 : Hid (BlkAt ((w.alloc (.cells #[.slice A1 al.length c1,.int .i64 n,.slice A2 mr.length c2,.slice A3 ed.length c3] 31)).alloc (.cells #[.slice B1 al.length d1,.int .i64 n,.slice B2 mr.length d2,.slice B3 ed.length d3] 31)) (w.heap.size + 1) 31 [.slice B1 al.length d1,.int .i64 n,.slice B2 mr.length d2,.slice B3 ed.length d3]) := by
  have := BlkAt.new (w.alloc (.cells #[.slice A1 al.length c1,.int .i64 n,.slice A2 mr.length c2,.slice A3 ed.length c3] 31)) 31 [.slice B1 al.length d1,.int .i64 n,.slice B2 mr.length d2,.slice B3 ed.length d3];simpa [Hid] using this
 have B0 : Hid (Fro w.heap.size w ((w.alloc (.cells #[.slice A1 al.length c1,.int .i64 n,.slice A2 mr.length c2,.slice A3 ed.length c3] 31)).alloc (.cells #[.slice B1 al.length d1,.int .i64 n,.slice B2 mr.length d2,.slice B3 ed.length d3] 31))) := ((Fro.here w).alloc _).alloc _;go_enter Tryz.func12,Tryz.ntmps12
 go_upto_region 1 with fail
 generalize hW : ((w.alloc (.cells #[.slice A1 al.length c1,.int .i64 n,.slice A2 mr.length c2,.slice A3 ed.length c3] 31)).alloc (.cells #[.slice B1 al.length d1,.int .i64 n,.slice B2 mr.length d2,.slice B3 ed.length d3] 31)) = W at *;clear hW;have a0 := q0.out.cell 0;have a1 := q0.out.cell 1;have a2 := q0.out.cell 2;have a3 := q0.out.cell 3;have b0 := q1.out.cell 0;have b1 := q1.out.cell 1;have b2 := q1.out.cell 2;have b3 := q1.out.cell 3;simp only [List.getElem?_cons_succ,List.getElem?_cons_zero] at a0 a1 a2 a3 b0 b1 b2 b3;have hnn : (n != n) = false := by simp
 have hne : (n == n) = true := by simp
 have hee : ((ed.length : Int) != (ed.length : Int)) = false := by simp
 go_wp2_with fail
 refine (sameI3_c A1 B1 c1 d1 al W (HA.out.below B0.out.b).al (HB.out.below B0.out.b).al hal).mono ?_;rintro e W1 ⟨rfl,hb⟩;have Q0 := Lib.hid (q0.out.below hb q0.out.lt);have Q1 := Lib.hid (q1.out.below hb q1.out.lt);have B1' := Lib.hid (B0.out.next hb);clear q0 q1 B0 hb a0 a1 a2 a3 b0 b1 b2 b3;have a1 := Q0.out.cell 1;have a2 := Q0.out.cell 2;have a3 := Q0.out.cell 3;have b1 := Q1.out.cell 1;have b2 := Q1.out.cell 2;have b3 := Q1.out.cell 3;simp only [List.getElem?_cons_succ,List.getElem?_cons_zero] at a1 a2 a3 b1 b2 b3;go_wp2_with fail
 refine (sameI3_c A2 B2 c2 d2 mr W1 (HA.out.below B1'.out.b).mr (HB.out.below B1'.out.b).mr hml).mono ?_;rintro e W2 ⟨rfl,hb⟩;have R0 := Lib.hid (Q0.out.below hb Q0.out.lt);have R1 := Lib.hid (Q1.out.below hb Q1.out.lt);have B2' := Lib.hid (B1'.out.next hb);clear Q0 Q1 B1' hb a1 a2 a3 b1 b2 b3;have a3 := R0.out.cell 3;have b3 := R1.out.cell 3;simp only [List.getElem?_cons_succ,List.getElem?_cons_zero] at a3 b3;go_wp2_with fail
 go_loopw [5] (fun i wr => ∃ k : Nat,k ≤ ed.length ∧ i = .int .i64 k ∧ Hid (Below W2.heap.size W2 wr)) (fun i _ => ed.length - (intOf i).toNat)
 case atStart => exact ⟨0,by omega,rfl,Below.refl _ _⟩
 case round =>
  obtain ⟨k,hk,rfl,BW⟩ := hrel;have S0 := Lib.hid (R0.out.below BW.out R0.out.lt);have S1 := Lib.hid (R1.out.below BW.out R1.out.lt);clear a3 b3;have a3 := S0.out.cell 3;have b3 := S1.out.cell 3;simp only [List.getElem?_cons_succ,List.getElem?_cons_zero] at a3 b3;have BF := Lib.hid (B2'.out.next BW.out);by_cases hlt : k < ed.length
  · obtain ⟨b,off,x,rfl,hb,hx,e0,e1,e2⟩ := EdsAt.at (HA.out.below BF.out.b).ed hlt;obtain ⟨b2,off2,y,rfl,hb2,hy,g0,g1,g2⟩ := EdsAt.at (HB.out.below BF.out.b).ed hlt;obtain rfl : x = y := Option.some.inj (hx.symm.trans hy);clear hx hy;obtain ⟨x1,x2,x3⟩ := x;dsimp only at e0 e1 e2 g0 g1 g2;go_wp2_with fail
    go_quiet (fail)
    go_wp2
    go_roundw
    case rel => exact ⟨k + 1,by omega,by go_num,BW.out.draws _⟩
    case measure => simp [intOf]; omega
  · obtain rfl : k = ed.length := by omega
    go_wp2
    go_ret
    exact ⟨rfl,BF.out.b⟩
theorem ints_stay {w w' : World} {A : Option Addr} {l : List Int} (h : IntsAt w A l) (hb : Below w.heap.size w w') : IntsAt w' A l := h.below IntE.stays hb
theorem same_t (A1 A2 : Option Addr) (c1 c2 : Nat) (l : List Int) (w : World) (h1 : IntsAt w A1 l) (h2 : IntsAt w A2 l) (n : l.length ≤ 140737488355328) :
 Calls Tryz.prog 14 #[.slice A1 l.length c1,.slice A2 l.length c2] w (Ret (.bool true) w) := (same_c A1 A2 c1 c2 l l w h1 h2 n n).mono fun e w' ⟨b,he,hb,hB⟩ => ⟨by rw [he,hb.2 rfl],hB⟩
theorem pre_idem {a c : Au} (h : IsMin c (preL a)) (u : List Int) : preL c u ↔ preL a u := by
 constructor
 · rintro ⟨v,hv⟩;obtain ⟨x,hx⟩ := (h.lang _).1 hv;exact ⟨v ++ x,by simpa using hx⟩
 · intro hu;exact ⟨[],by simpa using (h.lang u).2 hu⟩
theorem gap_none {a c : Au} (h : IsMin c (preL a)) {l : List Int} {f : Bool} (k : f = true ∧ LeastW (gapL c) l ∨ f = false ∧ l = [] ∧ ∀ u,¬ gapL c u) : f = false ∧ l = [] := by
 rcases k with ⟨_,k⟩ | ⟨k1,k2,_⟩
 · exact absurd ((h.lang _).2 ((pre_idem h _).1 k.is.1)) k.is.2
 · exact ⟨k1,k2⟩
theorem closes_same {a : Au} {l1 l2 : List Int} {f1 f2 : Bool} (h : f1 = true ∧ LeastW (gapL a) l1 ∨ f1 = false ∧ l1 = [] ∧ ∀ u,¬ gapL a u) (k : f2 = true ∧ LeastW (gapL a) l2 ∨ f2 = false ∧ l2 = [] ∧ ∀ u,¬ gapL a u) : f1 = f2 ∧ l1 = l2 := by
 rcases h with ⟨h1,h2⟩ | ⟨h1,h2,h3⟩ <;> rcases k with ⟨k1,k2⟩ | ⟨k1,k2,k3⟩
 · exact ⟨h1.trans k1.symm,h2.uniq k2⟩
 · exact absurd h2.is (k3 _)
 · exact absurd k2.is (h3 _)
 · exact ⟨h1.trans k1.symm,h2.trans k2.symm⟩
set_option maxHeartbeats 16000000 in
theorem lawCloses_c (s0 : Int) (g0 : Gr) (w : World) (h0 : 0 ≤ s0 ∧ s0 < 256) (hg0 : g0.Ok) (ht : TabW w) :
 Calls Tryz.prog 3 #[.int .u8 s0,g0.val] w (Ret (.bool true) w) := by
 have H0 := Lib.hid h0;have HG0 := Lib.hid hg0;have HTAB := Lib.hid ht;clear h0 hg0 ht;go_enter Tryz.func3,Tryz.ntmps3
 generalize hcs : g0.cells = cs;go_upto_region 1 with fail
 refine wp_world (fun W => Sep w.heap.size w [eBlk w.heap.size 26 cs] W) ?_ fun W S => ?_
 · exact (Sep.here w).alloc' _ cs rfl rfl
 rw [← hcs] at S;have SA := Lib.hid S;clear S hcs;go_wp2_with fail
 refine (known_c W (HTAB.out.below SA.out.below)).mono ?_;rintro e w1 ⟨rfl,hb⟩;have SB := Lib.hid (SA.out.next hb);clear hb SA;go_upto_region 3 with fail
 go_cut [5] (fun v wx => ∃ (a : Au) (p : AuP) (ta : Nat),v = .pointer (some ⟨ta,0,none⟩) ∧ Hid (Gd s0 a) ∧ (SepW w [eBox ta a p] wx))
 case first =>
  have S1 := Lib.hid SB.out.drew;refine wp_region_held_drew (S := (fun V => Sep w.heap.size w [eBlk w.heap.size 26 g0.cells] V)) (by kernel_rfl) ?_ (fun hH => ?_)
  · exact S1.out.pick [0] (by decide)
  generalize hwz : w1.drew = w1 at *;clear hwz;refine tkP 0 rfl (v := ?_) hH ?_;(try simp only [sx]);refine wpAnyH_take (i := 2) (v := _) rfl (by kernel_rfl) (by kernel_rfl) (by kernel_rfl) (fun _ _ _ h => h) (yieldsIf_load_mid (by kernel_rfl) 26 (.tmp 3) rfl w.heap.size 0 rfl g0.cells _ (fun V hs_ => BlkAt.rng (Sep.get (show Sep w.heap.size w _ V from hs_) 0 rfl) (fun j v hv => by rw [Nat.zero_add]; exact hv)) Tryz.underlying26 rfl (by kernel_rfl)) hH ?_;(try simp only [sx]);refine wpAnyH_ready (rs := [1,4]) (by kernel_rfl) (by simp) ?_;refine AllReadyH.cons rfl (fun K hK => ?_) (AllReadyH.cons rfl (fun K hK => ?_) AllReadyH.nil)
  · skip;go_simp;refine (events_c s0 w1 H0.out.1 H0.out.2).mono ?_;rintro e w2 ⟨v,rfl,O,hb⟩;obtain ⟨AE,cE,rfl⟩ := Own.form O.out;have S2 : (SepW w [eInts (evV s0 5) (.slice AE (evV s0 5).length cE),eBlk w.heap.size 26 g0.cells] w2) := S1.out.newI O.out hb;clear O hb;refine hK.out _ _ (S2.out.pick [1] (by decide)) fun hH => ?_;clear hK K;(try simp only [sx]);refine wpAnyH_ready (rs := [3,4]) (by kernel_rfl) (by simp) ?_;refine AllReadyH.cons rfl (fun K hK => ?_) (AllReadyH.cons rfl (fun K hK => ?_) AllReadyH.nil)
    · skip;go_simp;refine (make3_c AE cE (evV s0 5) g0 w2 (S2.out.ints 0 rfl) (evV_lt5 s0 5) (fun e => Own.none (S2.out.get 0 rfl) e) HG0.out).mono ?_;rintro e w3 ⟨a,p,rfl,hr,ha,hn,hed,hmr,HAO,hb⟩;have FA : Hid (Gd s0 a) := ⟨hr,ha,hn,hed,hmr⟩;have S3 : (SepW w [eInts a.al (.slice p.A1 a.al.length p.c1),eInts a.mr (.slice p.A2 a.mr.length p.c2),eEds a.ed (.slice p.A3 a.ed.length p.c3),eInts (evV s0 5) (.slice AE (evV s0 5).length cE),eBlk w.heap.size 26 g0.cells] w3) := S2.out.news (AuOwn.sep HAO.out hb);clear HAO hb hr ha hn hed hmr;refine hK.out _ _ (S3.out.pick [4] (by decide)) fun hH => ?_;clear hK K;(try simp only [sx]);refine rdH 4 rfl fun K hK => ?_;go_simp;obtain ⟨ntb,hntb⟩ : ∃ n,n = w3.heap.size := ⟨_,rfl⟩;obtain ⟨w4,hw4⟩ : ∃ v,v = w3.alloc (.cells #[.slice none 0 0,.int .i64 0,.slice none 0 0,.slice none 0 0] 31) := ⟨_,rfl⟩;rw [← hw4,← hntb];have S4 := ckA S3.out hw4 hntb;skip;clear hw4 hntb;refine hK.out _ _ (S4.out.pick [5] (by decide)) fun hH => ?_;clear hK K;(try simp only [sx]);refine rdH 5 rfl fun K hK => ?_;have sc0 := ckC S4.out 0 rfl 0 rfl;have sf0 := BlkAt.free (S4.out.get 0 rfl) 0;have sc1 := ckC S4.out 0 rfl 1 rfl;have sf1 := BlkAt.free (S4.out.get 0 rfl) 1;have sc2 := ckC S4.out 0 rfl 2 rfl;have sf2 := BlkAt.free (S4.out.get 0 rfl) 2;have sc3 := ckC S4.out 0 rfl 3 rfl;have sf3 := BlkAt.free (S4.out.get 0 rfl) 3;(try dsimp only [Au.val] at *);go_simp
      obtain ⟨w5,hw5⟩ : ∃ v,v = ((((w4.setCell ⟨ntb,0,none⟩ (.slice p.A1 a.al.length p.c1)).setCell ⟨ntb,1,none⟩ (.int .i64 a.n)).setCell ⟨ntb,2,none⟩ (.slice p.A2 a.mr.length p.c2)).setCell ⟨ntb,3,none⟩ (.slice p.A3 a.ed.length p.c3)) := ⟨_,rfl⟩;rw [← hw5];have S5 : (SepW w [eBlk ntb 31 [.slice p.A1 a.al.length p.c1,.int .i64 a.n,.slice p.A2 a.mr.length p.c2,.slice p.A3 a.ed.length p.c3],eInts a.al (.slice p.A1 a.al.length p.c1),eInts a.mr (.slice p.A2 a.mr.length p.c2),eEds a.ed (.slice p.A3 a.ed.length p.c3),eInts (evV s0 5) (.slice AE (evV s0 5).length cE),eBlk w.heap.size 26 g0.cells] w5) := by rw [hw5]; exact ((((S4.out.set 0 rfl 0 (.slice p.A1 a.al.length p.c1)).set 0 rfl 1 (.int .i64 a.n)).set 0 rfl 2 (.slice p.A2 a.mr.length p.c2)).set 0 rfl 3 (.slice p.A3 a.ed.length p.c3))
      clear hw5 sc0 sf0 sc1 sf1 sc2 sf2 sc3 sf3;refine hK.out _ _ (S5.out.pick [5] (by decide)) fun hH => ?_;clear hK K;(try simp only [sx]);refine wpAnyH_done (by kernel_rfl) ?_ _;have Q1 : Sep w.heap.size w [eBlk ntb 31 [.slice p.A1 a.al.length p.c1,.int .i64 a.n,.slice p.A2 a.mr.length p.c2,.slice p.A3 a.ed.length p.c3],eInts a.al (.slice p.A1 a.al.length p.c1),eInts a.mr (.slice p.A2 a.mr.length p.c2),eEds a.ed (.slice p.A3 a.ed.length p.c3)] w5 := S5.out.pick [0,1,2,3] (by decide);have Q2 := Lib.hid Q1.box;clear Q1;go_wp2_with fail
      go_meet
      exact ⟨a,p,ntb,rfl,FA.out,Q2.out⟩
    · skip;go_simp;obtain ⟨ntb,hntb⟩ : ∃ n,n = w2.heap.size := ⟨_,rfl⟩;obtain ⟨w6,hw6⟩ : ∃ v,v = w2.alloc (.cells #[.slice none 0 0,.int .i64 0,.slice none 0 0,.slice none 0 0] 31) := ⟨_,rfl⟩;rw [← hw6,← hntb];have S6 := ckA S2.out hw6 hntb;skip;clear hw6 hntb;refine hK.out _ _ (S6.out.pick [2] (by decide)) fun hH => ?_;clear hK K;(try simp only [sx]);refine rdH 3 rfl fun K hK => ?_;go_simp;refine (make3_c AE cE (evV s0 5) g0 w6 (S6.out.ints 1 rfl) (evV_lt5 s0 5) (fun e => Own.none (S6.out.get 1 rfl) e) HG0.out).mono ?_;rintro e w7 ⟨a,p,rfl,hr,ha,hn,hed,hmr,HAO,hb⟩;have FA : Hid (Gd s0 a) := ⟨hr,ha,hn,hed,hmr⟩;have S7 : (SepW w [eInts a.al (.slice p.A1 a.al.length p.c1),eInts a.mr (.slice p.A2 a.mr.length p.c2),eEds a.ed (.slice p.A3 a.ed.length p.c3),eBlk ntb 31 [.slice none 0 0,.int .i64 0,.slice none 0 0,.slice none 0 0],eInts (evV s0 5) (.slice AE (evV s0 5).length cE),eBlk w.heap.size 26 g0.cells] w7) := S6.out.news (AuOwn.sep HAO.out hb);clear HAO hb hr ha hn hed hmr;refine hK.out _ _ (S7.out.pick [5] (by decide)) fun hH => ?_;clear hK K;(try simp only [sx]);refine rdH 5 rfl fun K hK => ?_;have sc0 := ckC S7.out 3 rfl 0 rfl;have sf0 := BlkAt.free (S7.out.get 3 rfl) 0;have sc1 := ckC S7.out 3 rfl 1 rfl;have sf1 := BlkAt.free (S7.out.get 3 rfl) 1;have sc2 := ckC S7.out 3 rfl 2 rfl;have sf2 := BlkAt.free (S7.out.get 3 rfl) 2;have sc3 := ckC S7.out 3 rfl 3 rfl;have sf3 := BlkAt.free (S7.out.get 3 rfl) 3;(try dsimp only [Au.val] at *);go_simp
      obtain ⟨w8,hw8⟩ : ∃ v,v = ((((w7.setCell ⟨ntb,0,none⟩ (.slice p.A1 a.al.length p.c1)).setCell ⟨ntb,1,none⟩ (.int .i64 a.n)).setCell ⟨ntb,2,none⟩ (.slice p.A2 a.mr.length p.c2)).setCell ⟨ntb,3,none⟩ (.slice p.A3 a.ed.length p.c3)) := ⟨_,rfl⟩;rw [← hw8];have S8 : (SepW w [eInts a.al (.slice p.A1 a.al.length p.c1),eInts a.mr (.slice p.A2 a.mr.length p.c2),eEds a.ed (.slice p.A3 a.ed.length p.c3),eBlk ntb 31 [.slice p.A1 a.al.length p.c1,.int .i64 a.n,.slice p.A2 a.mr.length p.c2,.slice p.A3 a.ed.length p.c3],eInts (evV s0 5) (.slice AE (evV s0 5).length cE),eBlk w.heap.size 26 g0.cells] w8) := by rw [hw8]; exact ((((S7.out.set 3 rfl 0 (.slice p.A1 a.al.length p.c1)).set 3 rfl 1 (.int .i64 a.n)).set 3 rfl 2 (.slice p.A2 a.mr.length p.c2)).set 3 rfl 3 (.slice p.A3 a.ed.length p.c3))
      clear hw8 sc0 sf0 sc1 sf1 sc2 sf2 sc3 sf3;refine hK.out _ _ (S8.out.pick [5] (by decide)) fun hH => ?_;clear hK K;(try simp only [sx]);refine wpAnyH_done (by kernel_rfl) ?_ _;have Q1 : Sep w.heap.size w [eBlk ntb 31 [.slice p.A1 a.al.length p.c1,.int .i64 a.n,.slice p.A2 a.mr.length p.c2,.slice p.A3 a.ed.length p.c3],eInts a.al (.slice p.A1 a.al.length p.c1),eInts a.mr (.slice p.A2 a.mr.length p.c2),eEds a.ed (.slice p.A3 a.ed.length p.c3)] w8 := S8.out.pick [3,0,1,2] (by decide);have Q2 := Lib.hid Q1.box;clear Q1;go_wp2_with fail
      go_meet
      exact ⟨a,p,ntb,rfl,FA.out,Q2.out⟩
  · skip;go_simp;obtain ⟨ntb,hntb⟩ : ∃ n,n = w1.heap.size := ⟨_,rfl⟩;obtain ⟨w9,hw9⟩ : ∃ v,v = w1.alloc (.cells #[.slice none 0 0,.int .i64 0,.slice none 0 0,.slice none 0 0] 31) := ⟨_,rfl⟩;rw [← hw9,← hntb];have S9 := ckA S1.out hw9 hntb;skip;clear hw9 hntb;refine hK.out _ _ (S9.out.pick [1] (by decide)) fun hH => ?_;clear hK K;(try simp only [sx]);refine rdH 1 rfl fun K hK => ?_;go_simp;refine (events_c s0 w9 H0.out.1 H0.out.2).mono ?_;rintro e w10 ⟨v,rfl,O,hb⟩;obtain ⟨AE,cE,rfl⟩ := Own.form O.out;have S10 : (SepW w [eInts (evV s0 5) (.slice AE (evV s0 5).length cE),eBlk ntb 31 [.slice none 0 0,.int .i64 0,.slice none 0 0,.slice none 0 0],eBlk w.heap.size 26 g0.cells] w10) := S9.out.newI O.out hb;clear O hb;refine hK.out _ _ (S10.out.pick [2] (by decide)) fun hH => ?_;clear hK K;(try simp only [sx]);refine rdH 3 rfl fun K hK => ?_;go_simp;refine (make3_c AE cE (evV s0 5) g0 w10 (S10.out.ints 0 rfl) (evV_lt5 s0 5) (fun e => Own.none (S10.out.get 0 rfl) e) HG0.out).mono ?_;rintro e w11 ⟨a,p,rfl,hr,ha,hn,hed,hmr,HAO,hb⟩;have FA : Hid (Gd s0 a) := ⟨hr,ha,hn,hed,hmr⟩;have S11 : (SepW w [eInts a.al (.slice p.A1 a.al.length p.c1),eInts a.mr (.slice p.A2 a.mr.length p.c2),eEds a.ed (.slice p.A3 a.ed.length p.c3),eInts (evV s0 5) (.slice AE (evV s0 5).length cE),eBlk ntb 31 [.slice none 0 0,.int .i64 0,.slice none 0 0,.slice none 0 0],eBlk w.heap.size 26 g0.cells] w11) := S10.out.news (AuOwn.sep HAO.out hb);clear HAO hb hr ha hn hed hmr
    refine hK.out _ _ (S11.out.pick [5] (by decide)) fun hH => ?_;clear hK K;(try simp only [sx]);refine rdH 5 rfl fun K hK => ?_;have sc0 := ckC S11.out 4 rfl 0 rfl;have sf0 := BlkAt.free (S11.out.get 4 rfl) 0;have sc1 := ckC S11.out 4 rfl 1 rfl;have sf1 := BlkAt.free (S11.out.get 4 rfl) 1;have sc2 := ckC S11.out 4 rfl 2 rfl;have sf2 := BlkAt.free (S11.out.get 4 rfl) 2;have sc3 := ckC S11.out 4 rfl 3 rfl;have sf3 := BlkAt.free (S11.out.get 4 rfl) 3;(try dsimp only [Au.val] at *);go_simp;obtain ⟨w12,hw12⟩ : ∃ v,v = ((((w11.setCell ⟨ntb,0,none⟩ (.slice p.A1 a.al.length p.c1)).setCell ⟨ntb,1,none⟩ (.int .i64 a.n)).setCell ⟨ntb,2,none⟩ (.slice p.A2 a.mr.length p.c2)).setCell ⟨ntb,3,none⟩ (.slice p.A3 a.ed.length p.c3)) := ⟨_,rfl⟩;rw [← hw12];have S12 : (SepW w [eInts a.al (.slice p.A1 a.al.length p.c1),eInts a.mr (.slice p.A2 a.mr.length p.c2),eEds a.ed (.slice p.A3 a.ed.length p.c3),eInts (evV s0 5) (.slice AE (evV s0 5).length cE),eBlk ntb 31 [.slice p.A1 a.al.length p.c1,.int .i64 a.n,.slice p.A2 a.mr.length p.c2,.slice p.A3 a.ed.length p.c3],eBlk w.heap.size 26 g0.cells] w12) := by rw [hw12]; exact ((((S11.out.set 4 rfl 0 (.slice p.A1 a.al.length p.c1)).set 4 rfl 1 (.int .i64 a.n)).set 4 rfl 2 (.slice p.A2 a.mr.length p.c2)).set 4 rfl 3 (.slice p.A3 a.ed.length p.c3))
    clear hw12 sc0 sf0 sc1 sf1 sc2 sf2 sc3 sf3;refine hK.out _ _ (S12.out.pick [5] (by decide)) fun hH => ?_;clear hK K;(try simp only [sx]);refine wpAnyH_done (by kernel_rfl) ?_ _;have Q1 : Sep w.heap.size w [eBlk ntb 31 [.slice p.A1 a.al.length p.c1,.int .i64 a.n,.slice p.A2 a.mr.length p.c2,.slice p.A3 a.ed.length p.c3],eInts a.al (.slice p.A1 a.al.length p.c1),eInts a.mr (.slice p.A2 a.mr.length p.c2),eEds a.ed (.slice p.A3 a.ed.length p.c3)] w12 := S12.out.pick [4,0,1,2] (by decide);have Q2 := Lib.hid Q1.box;clear Q1;go_wp2_with fail
    go_meet
    exact ⟨a,p,ntb,rfl,FA.out,Q2.out⟩
 case rest =>
  clear SB;obtain ⟨a,⟨A1,a1,A2,a2,A3,a3⟩,ta,rfl,FA,SX⟩ := hcut;have HLa := Lib.hid FA.out.lens;go_upto_region 4 with fail
  refine wp_world (fun V => Sep w.heap.size w [eBox ta a ⟨A1,a1,A2,a2,A3,a3⟩] V) SX.out fun W0 S' => ?_;have S0 := Lib.hid S';clear S' SX;have la0 := BlkAt.cell (S0.out.get 0 rfl).1 0;have la1 := BlkAt.cell (S0.out.get 0 rfl).1 1;have la2 := BlkAt.cell (S0.out.get 0 rfl).1 2;have la3 := BlkAt.cell (S0.out.get 0 rfl).1 3;simp only [List.getElem?_cons_succ,List.getElem?_cons_zero] at la0 la1 la2 la3;go_wp2_with fail
  refine (closure_c a ⟨A1,a1,A2,a2,A3,a3⟩ W0 FA.out.rt (eBox.caps (S0.out.get 0 rfl)) (eBox.at (S0.out.get 0 rfl) HLa.out)).mono ?_;rintro e w1 ⟨c,⟨C1,c1,C2,c2,C3,c3⟩,rfl,TT,HLc,hm,hal⟩;have HMc := Lib.hid hm;have HAc := Lib.hid hal;have T1 := ckN S0.out TT.out;clear TT hm hal la0 la1 la2 la3 S0;dsimp only [Au.val];obtain ⟨tc,ht⟩ : ∃ g,g = w1.heap.size := ⟨_,rfl⟩;go_upto_region 5 with fail
  rw [← ht];refine wp_world (fun V => Sep w.heap.size w [eBlk tc 31 [.slice C1 c.al.length c1,.int .i64 c.n,.slice C2 c.mr.length c2,.slice C3 c.ed.length c3],eInts c.al (.slice C1 c.al.length c1),eInts c.mr (.slice C2 c.mr.length c2),eEds c.ed (.slice C3 c.ed.length c3),eBox ta a ⟨A1,a1,A2,a2,A3,a3⟩] V) (T1.out.alloc' _ [_,_,_,_] rfl ht) fun W1 S' => ?_;have S1 : (SepW w [eBox tc c ⟨C1,c1,C2,c2,C3,c3⟩,eBox ta a ⟨A1,a1,A2,a2,A3,a3⟩] W1) := S'.box;clear S' T1 ht;have la0 := BlkAt.cell (S1.out.get 1 rfl).1 0;have la1 := BlkAt.cell (S1.out.get 1 rfl).1 1;have la2 := BlkAt.cell (S1.out.get 1 rfl).1 2;have la3 := BlkAt.cell (S1.out.get 1 rfl).1 3;simp only [List.getElem?_cons_succ,List.getElem?_cons_zero] at la0 la1 la2 la3;go_wp2_with fail
  refine (isClosed_c a ⟨A1,a1,A2,a2,A3,a3⟩ W1 FA.out.rt (eBox.caps (S1.out.get 1 rfl)) (eBox.at (S1.out.get 1 rfl) HLa.out)).mono ?_;rintro e w2 ⟨L1,k1,l1,f1,rfl,HI1,hb,hl1⟩;have S2 := Lib.hid (S1.out.next hb);clear hb la0 la1 la2 la3 S1;have HF1 := Lib.hid hl1;clear hl1;go_upto_region 6 with fail
  refine wp_world (fun V => Sep w.heap.size w [eBox tc c ⟨C1,c1,C2,c2,C3,c3⟩,eBox ta a ⟨A1,a1,A2,a2,A3,a3⟩] V ∧ IntsAt V L1 l1) ⟨S2.out,HI1.out⟩ fun W2 S' => ?_;have S2' := S2;clear S2 HI1;have S2 := Lib.hid S'.1;have HI1 := Lib.hid S'.2;clear S' S2';have la0 := BlkAt.cell (S2.out.get 1 rfl).1 0;have la1 := BlkAt.cell (S2.out.get 1 rfl).1 1;have la2 := BlkAt.cell (S2.out.get 1 rfl).1 2;have la3 := BlkAt.cell (S2.out.get 1 rfl).1 3;simp only [List.getElem?_cons_succ,List.getElem?_cons_zero] at la0 la1 la2 la3;go_wp2_with fail
  refine (open9_c a ⟨A1,a1,A2,a2,A3,a3⟩ W2 FA.out.rt (eBox.at (S2.out.get 1 rfl) HLa.out)).mono ?_;rintro e w3 ⟨L2,k2,l2,f2,rfl,HI2,hb,hln,hl2⟩;have S3 := Lib.hid (S2.out.next hb);have HJ1 : Hid (IntsAt w3 L1 l1) := ints_stay HI1.out hb;clear hb la0 la1 la2 la3 S2 HI1;obtain ⟨hff,hll⟩ := closes_same HF1.out hl2;subst hff hll;clear HF1 hl2;have HLN := Lib.hid hln;clear hln;go_upto_region 7 with fail
  refine wp_world (fun V => Sep w.heap.size w [eBox tc c ⟨C1,c1,C2,c2,C3,c3⟩,eBox ta a ⟨A1,a1,A2,a2,A3,a3⟩] V ∧ IntsAt V L1 l1 ∧ IntsAt V L2 l1) ⟨S3.out,HJ1.out,HI2.out⟩ fun W3 S' => ?_;have S3' := S3;clear S3 HI2 HJ1;have S3 := Lib.hid S'.1;have HI1 := Lib.hid S'.2.1;have HI2 := Lib.hid S'.2.2;clear S' S3';have S7 : Hid (Sep W3.heap.size W3 [] W3) := Sep.here W3;go_cut [63] (fun x wx => x = .bool false ∧ Hid (Sep W3.heap.size W3 [] wx))
  case first =>
   cases f1;all_goals
    have S13 := Lib.hid S7.out.drew;refine wp_region_held_drew (S := (fun V => Sep W3.heap.size W3 [] V)) (by kernel_rfl) ?_ (fun hH => ?_)
    · exact S13.out.pick [] (by decide)
    generalize hwz : W3.drew = w13 at *;clear hwz;refine tkP 0 rfl (v := ?_) hH ?_;(try simp only [sx]);refine tkP 1 rfl (v := ?_) hH ?_;(try simp only [sx]);refine tkP 2 rfl (v := ?_) hH ?_;(try simp only [sx]);refine tkP 3 rfl (v := ?_) hH ?_;(try simp only [sx]);refine tkP 4 rfl (v := ?_) hH ?_;(try simp only [sx]);refine tkP 5 rfl (v := ?_) hH ?_;(try simp only [sx]);refine tkP 6 rfl (v := ?_) hH ?_;(try simp only [sx]);refine tkH 7 rfl (v := ?_) (by kernel_rfl) ?_ hH ?_;rotate_left
    · intro V hs_;have z := S3.out.next (show Sep W3.heap.size W3 _ V from hs_).below;have c0 := BlkAt.cell (z.get 0 rfl).1 0;have c1 := BlkAt.cell (z.get 0 rfl).1 1;have c2 := BlkAt.cell (z.get 0 rfl).1 2;have c3 := BlkAt.cell (z.get 0 rfl).1 3;simp only [List.getElem?_cons_succ,List.getElem?_cons_zero] at c0 c1 c2 c3;clear z;clear hs_;first | (go_simp; done) | (go_simp; with_reducible rfl)
    (try simp only [sx]);refine tkH 8 rfl (v := ?_) (by kernel_rfl) ?_ hH ?_;rotate_left
    · intro V hs_;have z := S3.out.next (show Sep W3.heap.size W3 _ V from hs_).below;have c0 := BlkAt.cell (z.get 1 rfl).1 0;have c1 := BlkAt.cell (z.get 1 rfl).1 1;have c2 := BlkAt.cell (z.get 1 rfl).1 2;have c3 := BlkAt.cell (z.get 1 rfl).1 3;simp only [List.getElem?_cons_succ,List.getElem?_cons_zero] at c0 c1 c2 c3;clear z;clear hs_;first | (go_simp; done) | (go_simp; with_reducible rfl)
    (try simp only [sx]);refine rdH 9 rfl fun K hK => ?_;go_simp;refine (closure9_c a ⟨A1,a1,A2,a2,A3,a3⟩ w13 FA.out.rt (eBox.at ((S3.out.next S13.out.below).get 1 rfl) HLa.out) (fun h => (Own.none ((S3.out.next S13.out.below).get 1 rfl).2.1 h).2)).mono ?_;rintro e w14 ⟨m,⟨M1,m1,M2,m2,M3,m3⟩,rfl,TM,HLm,HMm,hma⟩;obtain rfl : c = m := HMc.out.uniq HMm.out (HAc.out.trans hma.symm);have S14 := ckN S13.out TM.out;clear TM hma HMm;dsimp only [Au.val];refine hK.out _ _ (S14.out.pick [] (by decide)) fun hH => ?_;clear hK K;(try simp only [sx]);refine rdH 10 rfl fun K hK => ?_;go_simp;refine (same3_c c ⟨C1,c1,C2,c2,C3,c3⟩ ⟨M1,m1,M2,m2,M3,m3⟩ w14 (eBox.at ((S3.out.next S14.out.below).get 0 rfl) HLc.out) ⟨S14.out.ints 0 rfl,S14.out.ints 1 rfl,S14.out.eds 2 rfl,HLm.out.1,HLm.out.2.1,HLm.out.2.2⟩).mono ?_;rintro e w15 ⟨rfl,hb⟩;have S15 := Lib.hid (S14.out.next hb);clear hb;refine hK.out _ _ (S15.out.pick [] (by decide)) fun hH => ?_;clear hK K;(try simp only [sx]);refine tkP 11 rfl (v := ?_) hH ?_;(try simp only [sx]);refine tkP 12 rfl (v := ?_) hH ?_;(try simp only [sx]);refine tkP 13 rfl (v := ?_) hH ?_;(try simp only [sx]);refine tkP 14 rfl (v := ?_) hH ?_;(try simp only [sx]);refine tkP 15 rfl (v := ?_) hH ?_;(try simp only [sx]);refine tkP 16 rfl (v := ?_) hH ?_;(try simp only [sx]);refine tkP 17 rfl (v := ?_) hH ?_;(try simp only [sx]);refine tkP 18 rfl (v := ?_) hH ?_;(try simp only [sx]);refine tkP 19 rfl (v := ?_) hH ?_;(try simp only [sx]);refine tkP 20 rfl (v := ?_) hH ?_
    (try simp only [sx]);refine rdH 21 rfl fun K hK => ?_;go_simp;refine (same_t L1 L2 k1 k2 l1 w15 (ints_stay HI1.out S15.out.below) (ints_stay HI2.out S15.out.below) (Nat.le_trans HLN.out (by decide))).mono ?_;rintro e w16 ⟨rfl,hb⟩;have S16 := Lib.hid (S15.out.next hb);clear hb;refine hK.out _ _ (S16.out.pick [] (by decide)) fun hH => ?_;clear hK K;(try simp only [sx]);refine tkP 22 rfl (v := ?_) hH ?_;(try simp only [sx]);refine tkP 23 rfl (v := ?_) hH ?_;(try simp only [sx]);refine wpAnyH_done (by kernel_rfl) ?_ _;go_wp2_with fail
    go_meet
    exact ⟨rfl,S16.out.pick [] (by decide)⟩
  case rest =>
   obtain ⟨rfl,S8⟩ := hcut;have S4 : (SepW w [eBox tc c ⟨C1,c1,C2,c2,C3,c3⟩,eBox ta a ⟨A1,a1,A2,a2,A3,a3⟩] wc) := S3.out.next S8.out.below;clear S8 S7 S3 HI1 HI2;go_upto_region 9 with fail
   refine wp_world (fun V => Sep w.heap.size w [eBox tc c ⟨C1,c1,C2,c2,C3,c3⟩,eBox ta a ⟨A1,a1,A2,a2,A3,a3⟩] V) S4.out fun W4 S' => ?_;clear S4;have S4 := Lib.hid S';clear S';have lc0 := BlkAt.cell (S4.out.get 0 rfl).1 0;have lc1 := BlkAt.cell (S4.out.get 0 rfl).1 1;have lc2 := BlkAt.cell (S4.out.get 0 rfl).1 2;have lc3 := BlkAt.cell (S4.out.get 0 rfl).1 3;simp only [List.getElem?_cons_succ,List.getElem?_cons_zero] at lc0 lc1 lc2 lc3;go_wp2_with fail
   refine (isClosed_c c ⟨C1,c1,C2,c2,C3,c3⟩ W4 HMc.out.rt (eBox.caps (S4.out.get 0 rfl)) (eBox.at (S4.out.get 0 rfl) HLc.out)).mono ?_;rintro e w5 ⟨L3,k3,l3,f3,rfl,HI3,hb,hl3⟩;obtain ⟨rfl,rfl⟩ := gap_none HMc.out hl3;clear hl3 HI3;have S5 := Lib.hid (S4.out.next hb);clear hb lc0 lc1 lc2 lc3 S4;dsimp only [Bool.not_false,List.length_nil];go_upto_region 10 with fail
   refine wp_world (fun V => Sep w.heap.size w [eBox tc c ⟨C1,c1,C2,c2,C3,c3⟩,eBox ta a ⟨A1,a1,A2,a2,A3,a3⟩] V) S5.out fun W5 S' => ?_;clear S5;have S5 := Lib.hid S';clear S';have lc0 := BlkAt.cell (S5.out.get 0 rfl).1 0;have lc1 := BlkAt.cell (S5.out.get 0 rfl).1 1;have lc2 := BlkAt.cell (S5.out.get 0 rfl).1 2;have lc3 := BlkAt.cell (S5.out.get 0 rfl).1 3;simp only [List.getElem?_cons_succ,List.getElem?_cons_zero] at lc0 lc1 lc2 lc3;go_wp2_with fail
   refine (closure_c c ⟨C1,c1,C2,c2,C3,c3⟩ W5 HMc.out.rt (eBox.caps (S5.out.get 0 rfl)) (eBox.at (S5.out.get 0 rfl) HLc.out)).mono ?_;rintro e w6 ⟨m,⟨M1,m1,M2,m2,M3,m3⟩,rfl,TT,HLm,hm,hal⟩;have HMm := Lib.hid hm;have HAm := Lib.hid hal;have T6 := ckN S5.out TT.out;clear TT hm hal lc0 lc1 lc2 lc3 S5;dsimp only [Au.val];obtain ⟨tm,ht⟩ : ∃ g,g = w6.heap.size := ⟨_,rfl⟩;go_upto_region 11 with fail
   rw [← ht];refine wp_world (fun V => Sep w.heap.size w [eBlk tm 31 [.slice M1 m.al.length m1,.int .i64 m.n,.slice M2 m.mr.length m2,.slice M3 m.ed.length m3],eInts m.al (.slice M1 m.al.length m1),eInts m.mr (.slice M2 m.mr.length m2),eEds m.ed (.slice M3 m.ed.length m3),eBox tc c ⟨C1,c1,C2,c2,C3,c3⟩,eBox ta a ⟨A1,a1,A2,a2,A3,a3⟩] V) (T6.out.alloc' _ [_,_,_,_] rfl ht) fun W6 S' => ?_;have S6 : (SepW w [eBox tm m ⟨M1,m1,M2,m2,M3,m3⟩,eBox tc c ⟨C1,c1,C2,c2,C3,c3⟩,eBox ta a ⟨A1,a1,A2,a2,A3,a3⟩] W6) := S'.box;clear S' T6 ht;obtain rfl : c = m := HMc.out.uniq (HMm.out.congr (pre_idem HMc.out)) HAm.out.symm;have lm0 := BlkAt.cell (S6.out.get 0 rfl).1 0;have lm1 := BlkAt.cell (S6.out.get 0 rfl).1 1;have lm2 := BlkAt.cell (S6.out.get 0 rfl).1 2;have lm3 := BlkAt.cell (S6.out.get 0 rfl).1 3;have lc0 := BlkAt.cell (S6.out.get 1 rfl).1 0;have lc1 := BlkAt.cell (S6.out.get 1 rfl).1 1;have lc2 := BlkAt.cell (S6.out.get 1 rfl).1 2;have lc3 := BlkAt.cell (S6.out.get 1 rfl).1 3;simp only [List.getElem?_cons_succ,List.getElem?_cons_zero] at lm0 lc0 lm1 lc1 lm2 lc2 lm3 lc3;go_wp2_with fail
   refine (same3_c c ⟨M1,m1,M2,m2,M3,m3⟩ ⟨C1,c1,C2,c2,C3,c3⟩ W6 (eBox.at (S6.out.get 0 rfl) HLc.out) (eBox.at (S6.out.get 1 rfl) HLc.out)).mono ?_;rintro e w7 ⟨rfl,hb⟩;have S9 := Lib.hid (S6.out.next hb);clear hb S6;go_wp2_with fail
   go_ret
   exact ⟨rfl,S9.out.below⟩
end Go.Proofs.YtkifgffhoenaoaaGreatDoor
