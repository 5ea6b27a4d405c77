/-
  What the row leans on.
-/
import Derived.Test.YtimdepdbcdbikaaBas01
import Derived.Test.YtimdepdbcdbikaaBas21
import Derived.Test.YtimdepdbcdbikaaCgx02
import Derived.Test.YtimdepdbcdbikaaCgx03
import Derived.BigQuiet
import Derived.Great.BuildSlice
import Derived.Deep.MidRow
import Derived.Deep.CutBlock
import Derived.Deep.DeepCutAuto
import Derived.Test.YtimdepdbcdbikaaCgx01
set_option linter.unusedSimpArgs false
set_option linter.unusedVariables false
namespace Go.Proofs.Ytimdepdbcdbikaa
open Go.RowKit
set_option maxRecDepth 100000
theorem onL_mem {m : Md} {c : Ck} {e : Int} {k : Nat} (h : e ∈ onL m c k) : e ∈ m.all ∧ (m.eff e c).isSome = true := by
 unfold onL at h
 obtain ⟨h1,h2⟩ := List.mem_filter.1 h;exact ⟨List.mem_of_mem_take h1,h2⟩
set_option maxHeartbeats 16000000 in
theorem lawSteps_c (x : Sm5) (AL : Option Addr) (cL : Nat) (l : List Int) (ev : Int) (w : World) (hx : x.Ok) (hl : U8sAt w AL l) :
 Calls Try.prog 7 #[.agg x.cells.toArray,.slice AL l.length cL,.int .i64 ev] w (Ret (.bool true) w) := by
 have HL := Lib.hid hl;clear hl;have MK := Lib.hid (fun W : World => makeM_c x W hx);have SM := Lib.hid (Sm5.sml hx);have INFO := Lib.hid (Sm5.info hx);obtain ⟨m,hm⟩ : ∃ m,m = x.md := ⟨_,rfl⟩;rw [← hm] at MK SM;obtain ⟨cs,hcs⟩ : ∃ cs,cs = x.cells := ⟨_,rfl⟩;rw [← hcs] at MK INFO ⊢;clear hm hcs hx;go_enter Try.func7,Try.ntmps7
 obtain ⟨xb,hxb⟩ : ∃ g,g = w.heap.size := ⟨_,rfl⟩;go_upto_region 1 with fail
 rw [← hxb];refine wp_world (fun W => (SepW w [eBlk xb 29 cs] W)) ((Sep.here w).alloc' _ cs rfl hxb) fun v1 S' => ?_;have T1 := Lib.hid S'.out;clear S' hxb;go_wp2_with fail
 refine (knownT_c v1).mono ?_;rintro e2 v2 ⟨rfl,hb⟩;have T2 := Lib.hid (T1.out.next hb);clear hb T1;by_cases h10 : 10 < l.length
 · have hd1 : decide ((10 : Int) < (l.length : Int)) = true := decide_eq_true (by omega);have hd2 : decide (10 < l.length) = true := decide_eq_true h10;go_wp2_with fail
   refine (knownT_c v2).mono ?_;rintro e3 v3 ⟨rfl,hb⟩;have T3 := Lib.hid (T2.out.next hb);clear hb T2;go_wp2_with fail
   go_ret
   exact ⟨rfl,T3.out.below⟩
 · have hd1 : decide ((10 : Int) < (l.length : Int)) = false := decide_eq_false (by omega);have hd2 : decide (10 < l.length) = false := decide_eq_false h10;obtain ⟨c,hc⟩ : ∃ c,c = m.start := ⟨_,rfl⟩;have IC : Hid (∀ (P : MdP) (W : World),Md.At W m P → Calls Try.prog 20 #[.agg (m.cells P).toArray] W (GivesIn c W)) := fun P W h => by rw [hc]; exact initialP_c m P W SM.out.ok h SM.out.n
   have IR : Hid (∀ (P : MdP) (W : World),Md.At W m P → Calls Try.prog 24 #[.agg (m.cells P).toArray] W (GivesStT c W)) := fun P W h => by rw [hc]; exact initial44_c m P W SM.out.ok h
   have OK0 : Hid (Okc m c) := by rw [Hid,hc]; exact Okc.start SM.out.ok SM.out.n
   have CL : Hid (c.2.length ≤ 140737488355328) := by rw [Hid,OK0.out.len SM.out]; decide
   clear hc;have hrg := range_of (T2.out.get 0 rfl);go_wp2_with (refine wpList_load_mid rfl 29 _ rfl xb 0 rfl cs _ hrg Try.underlying29 rfl INFO.out ?_)
   refine (MK.out v2).mono ?_;rintro e3 v3 ⟨⟨p,B,d⟩,rfl,T⟩;dsimp only [Md.cells];have T3 := qkN T2.out T.out;clear T T2;clear hrg MK INFO;obtain ⟨mb,hg4⟩ : ∃ g,g = v3.heap.size := ⟨_,rfl⟩;go_upto_region 4 with fail
   rw [← hg4];refine wp_world (fun V => (SepW w [eBlk mb 37 [.slice p.A1 m.a.al.length p.c1,.int .i64 m.a.n,.slice p.A2 m.a.mr.length p.c2,.slice p.A3 m.a.ed.length p.c3,.slice B m.ac.length d,.int .i64 m.tk],eMdl m ⟨p,B,d⟩,eBlk xb 29 cs] V)) (T3.out.alloc' 37 [.slice p.A1 m.a.al.length p.c1,.int .i64 m.a.n,.slice p.A2 m.a.mr.length p.c2,.slice p.A3 m.a.ed.length p.c3,.slice B m.ac.length d,.int .i64 m.tk] rfl hg4) fun v4 S' => ?_;have T4 := Lib.hid S'.out;clear S' T3 hg4;have f_mb0 := qkC T4.out 0 rfl 0 rfl;have f_mb1 := qkC T4.out 0 rfl 1 rfl;have f_mb2 := qkC T4.out 0 rfl 2 rfl;have f_mb3 := qkC T4.out 0 rfl 3 rfl;have f_mb4 := qkC T4.out 0 rfl 4 rfl;have f_mb5 := qkC T4.out 0 rfl 5 rfl;go_wp2_with fail
   refine (IC.out ⟨p,B,d⟩ v4 (T4.out.mdAt 1 rfl SM.out.lens)).mono ?_;rintro e5 v5 ⟨AT,cp,rfl,T⟩;have T5 := qkN T4.out T.out;clear f_mb0 f_mb1 f_mb2 f_mb3 f_mb4 f_mb5 T T4;obtain ⟨sb,hg6⟩ : ∃ g,g = v5.heap.size := ⟨_,rfl⟩;go_upto_region 5 with fail
   rw [← hg6];refine wp_world (fun V => (SepW w [eBlk sb 63 [.int .i64 c.1,.slice AT c.2.length cp],eInts c.2 (.slice AT c.2.length cp),eBlk mb 37 [.slice p.A1 m.a.al.length p.c1,.int .i64 m.a.n,.slice p.A2 m.a.mr.length p.c2,.slice p.A3 m.a.ed.length p.c3,.slice B m.ac.length d,.int .i64 m.tk],eMdl m ⟨p,B,d⟩,eBlk xb 29 cs] V)) (T5.out.alloc' 63 [.int .i64 c.1,.slice AT c.2.length cp] rfl hg6) fun v6 S' => ?_;have T6 := Lib.hid S'.out;clear S' T5 hg6;go_cut [53] (fun v wx => v = .bool false ∧ (SepW w [eBlk sb 63 [.int .i64 c.1,.slice AT c.2.length cp],eInts c.2 (.slice AT c.2.length cp),eBlk mb 37 [.slice p.A1 m.a.al.length p.c1,.int .i64 m.a.n,.slice p.A2 m.a.mr.length p.c2,.slice p.A3 m.a.ed.length p.c3,.slice B m.ac.length d,.int .i64 m.tk],eMdl m ⟨p,B,d⟩,eBlk xb 29 cs] wx))
   case first =>
    clear hd1 hd2;have S1 := Lib.hid T6.out.drew;refine wp_region_held_drew (S := (fun V => Sep w.heap.size w [eBlk sb 63 [.int .i64 c.1,.slice AT c.2.length cp],eBlk mb 37 [.slice p.A1 m.a.al.length p.c1,.int .i64 m.a.n,.slice p.A2 m.a.mr.length p.c2,.slice p.A3 m.a.ed.length p.c3,.slice B m.ac.length d,.int .i64 m.tk]] V)) (by kernel_rfl) ?_ (fun hH => ?_)
    · exact S1.out.pick [0,2] (by decide)
    generalize hwz : v6.drew = w1 at *;clear hwz;rw [show Array.replicate _ false = #[false,false,false,false,false,false,false,false,false] from rfl];refine tkP 0 rfl (v := ?_) hH ?_;(try simp only [sx]);refine tkP 1 rfl (v := ?_) hH ?_;(try simp only [sx]);refine tkP 2 rfl (v := ?_) hH ?_;(try simp only [sx]);refine tkH 3 rfl (v := ?_) (by kernel_rfl) ?_ hH ?_;rotate_left
    · intro V hs_;have s0 := qkC hs_ 0 rfl 0 rfl;have s1 := qkC hs_ 0 rfl 1 rfl;clear hs_;first | (go_simp; done) | (go_simp; with_reducible rfl)
    (try simp only [sx]);refine tkH 4 rfl (v := ?_) (by kernel_rfl) ?_ hH ?_;rotate_left
    · intro V hs_;have b0 := qkC hs_ 1 rfl 0 rfl;have b1 := qkC hs_ 1 rfl 1 rfl;have b2 := qkC hs_ 1 rfl 2 rfl;have b3 := qkC hs_ 1 rfl 3 rfl;have b4 := qkC hs_ 1 rfl 4 rfl;have b5 := qkC hs_ 1 rfl 5 rfl;clear hs_;first | (go_simp; done) | (go_simp; with_reducible rfl)
    (try simp only [sx]);refine act_name ?_;intro A0 hA0;obtain ⟨F,hF⟩ : ∃ F : Value → Value → Value → Value → Act,Hid (∀ x50 x51 x52 x53,F x50 x51 x52 x53 = ((((A0.put (some 50) x50).put (some 51) x51).put (some 52) x52).put (some 53) x53)) := ⟨fun x50 x51 x52 x53 => ((((A0.put (some 50) x50).put (some 51) x51).put (some 52) x52).put (some 53) x53),fun _ _ _ _ => rfl⟩;subst hA0;unfold Hid at hF
    simp only [List.getElem_toArray,List.getElem_cons_zero,List.getElem_cons_succ,Act.put,List.setIfInBounds_toArray,List.set_cons_zero,List.set_cons_succ] at hF;have HF := Lib.hid hF;clear hF;obtain ⟨INV,hI⟩ : ∃ I : Array Bool → Act → World → Prop,Hid (∀ l_ a_ W_,I l_ a_ W_ ↔ ∃ (fb5 fb6 fb7 fb8 : Bool) (x50 x51 x52 x53 : Value) (E_in : Ent),l_ = #[true,true,true,true,true,fb5,fb6,fb7,fb8] ∧ a_ = F x50 x51 x52 x53 ∧ (SepW w [E_in,eBlk sb 63 [.int .i64 c.1,.slice AT c.2.length cp],eInts c.2 (.slice AT c.2.length cp),eBlk mb 37 [.slice p.A1 m.a.al.length p.c1,.int .i64 m.a.n,.slice p.A2 m.a.mr.length p.c2,.slice p.A3 m.a.ed.length p.c3,.slice B m.ac.length d,.int .i64 m.tk],eMdl m ⟨p,B,d⟩,eBlk xb 29 cs] W_) ∧ True ∧ Hid (fb6 = true → fb5 = true) ∧ Hid (fb7 = true → fb6 = true) ∧ Hid (fb8 = true → fb7 = true) ∧ Hid (fb6 = true → x51 = .bool true) ∧ Hid (fb7 = true → x52 = .bool false) ∧ Hid (fb8 = true → x53 = .bool false) ∧ Hid (fb5 = false → E_in = eNo) ∧ Hid (fb5 = true → ∃ A c',x50 = .agg #[.int .i64 c.1,.slice A c.2.length c'] ∧ E_in = eInts c.2 (.slice A c.2.length c'))) := ⟨_,fun _ _ _ => Iff.rfl⟩;refine wpAnyH_inv (INV := INV) (D := [[],[0],[1],[2],[2],[2,4],[2,3,5],[2,6],[2,7]]) [5,6,7,8] (by kernel_rfl) (fun l_ a_ W_ h => ?_) (fun l_ a_ W_ h => ?_) (fun l_ a_ W_ h hall => ?_) ?_ _ _ _ _ (by decide) ?_
    · obtain ⟨fb5,fb6,fb7,fb8,x50,x51,x52,x53,E_in,rfl,rfl,S_,_,mf5_6,mf6_7,mf7_8,cf6,cf7,cf8,d_in,d_in0⟩ := (hI.out _ _ _).1 h;exact S_.out.pick [1,3] (by decide)
    · obtain ⟨fb5,fb6,fb7,fb8,x50,x51,x52,x53,E_in,rfl,rfl,S_,_,mf5_6,mf6_7,mf7_8,cf6,cf7,cf8,d_in,d_in0⟩ := (hI.out _ _ _).1 h;rfl
    · obtain ⟨fb5,fb6,fb7,fb8,x50,x51,x52,x53,E_in,rfl,rfl,S_,_,mf5_6,mf6_7,mf7_8,cf6,cf7,cf8,d_in,d_in0⟩ := (hI.out _ _ _).1 h;obtain rfl : fb5 = true := hall 5 (by decide);obtain rfl : fb6 = true := hall 6 (by decide);obtain rfl : fb7 = true := hall 7 (by decide);obtain rfl : fb8 = true := hall 8 (by decide);clear hall h hI INV;rw [HF.out];clear HF F;obtain rfl := cf6.out rfl;obtain rfl := cf7.out rfl;obtain rfl := cf8.out rfl;have v_in := d_in0.out rfl;clear mf5_6 mf6_7 mf7_8 cf6 cf7 cf8 d_in d_in0;have S9 := S_;go_wp2_with fail
      go_meet
      exact ⟨by first | rfl | simp [*],S9.out.pick [1,2,3,4,5] (by decide)⟩
    · clear hH S1;refine StepsI.cons rfl (fun l_ a_ W_ h hf hd K hK => ?_) (StepsI.cons rfl (fun l_ a_ W_ h hf hd K hK => ?_) (StepsI.cons rfl (fun l_ a_ W_ h hf hd K hK => ?_) (StepsI.cons rfl (fun l_ a_ W_ h hf hd K hK => ?_) (StepsI.nil))))
      · obtain ⟨fb5,fb6,fb7,fb8,x50,x51,x52,x53,E_in,rfl,rfl,S_,_,mf5_6,mf6_7,mf7_8,cf6,cf7,cf8,d_in,d_in0⟩ := (hI.out _ _ _).1 h;obtain rfl : fb5 = false := hf;clear h;obtain rfl : fb6 = false := by cases fb6 with | false => rfl | true => exact nomatch (mf5_6.out rfl)
        obtain rfl : fb7 = false := by cases fb7 with | false => rfl | true => exact nomatch (mf6_7.out rfl)
        obtain rfl : fb8 = false := by cases fb8 with | false => rfl | true => exact nomatch (mf7_8.out rfl)
        clear hd;rw [HF.out];have v_in := d_in.out rfl;obtain rfl := v_in;go_simp;refine (IR.out ⟨p,B,d⟩ W_ (S_.out.mdAt 4 rfl SM.out.lens)).mono ?_;rintro e_ W2 ⟨A1,c1,rfl,T⟩;have S2 := Lib.hid (S_.out.fill1 0 rfl T.out);clear T;(try simp only [sx]);refine hK.out _ _ ((hI.out _ _ _).2 ⟨true,false,false,false,_,_,_,_,_,rfl,(HF.out _ _ _ _).symm,S2,trivial,(fun _ => rfl),(fun h => nomatch h),(fun h => nomatch h),(fun h => nomatch h),(fun h => nomatch h),(fun h => nomatch h),(fun h => nomatch h),(fun _ => ⟨_,_,rfl,rfl⟩)⟩)
      · obtain ⟨fb5,fb6,fb7,fb8,x50,x51,x52,x53,E_in,rfl,rfl,S_,_,mf5_6,mf6_7,mf7_8,cf6,cf7,cf8,d_in,d_in0⟩ := (hI.out _ _ _).1 h;obtain rfl : fb6 = false := hf;clear h;obtain rfl : fb5 = true := hd 5 (by decide);obtain rfl : fb7 = false := by cases fb7 with | false => rfl | true => exact nomatch (mf6_7.out rfl)
        obtain rfl : fb8 = false := by cases fb8 with | false => rfl | true => exact nomatch (mf7_8.out rfl)
        clear hd;rw [HF.out];have v_in := d_in0.out rfl;obtain ⟨A1,c1,rfl,rfl⟩ := v_in;go_simp;refine (sameState_c c c AT A1 cp c1 W_ (S_.out.ints 2 rfl) (S_.out.ints 0 rfl) CL.out CL.out).mono ?_;intro e_ W2 hs;obtain ⟨rfl,hb⟩ := hs.yes2 rfl;have S2 := Lib.hid (S_.out.next hb);clear hb hs;(try simp only [sx]);refine hK.out _ _ ((hI.out _ _ _).2 ⟨true,true,false,false,_,_,_,_,_,rfl,(HF.out _ _ _ _).symm,S2,trivial,(fun _ => rfl),(fun _ => rfl),(fun h => nomatch h),(fun _ => rfl),(fun h => nomatch h),(fun h => nomatch h),(fun h => nomatch h),d_in0⟩)
      · obtain ⟨fb5,fb6,fb7,fb8,x50,x51,x52,x53,E_in,rfl,rfl,S_,_,mf5_6,mf6_7,mf7_8,cf6,cf7,cf8,d_in,d_in0⟩ := (hI.out _ _ _).1 h;obtain rfl : fb7 = false := hf;clear h;obtain rfl : fb6 = true := hd 6 (by decide);obtain rfl : fb5 = true := mf5_6.out rfl;obtain rfl : fb8 = false := by cases fb8 with | false => rfl | true => exact nomatch (mf7_8.out rfl)
        clear hd;rw [HF.out];obtain rfl := cf6.out rfl;have v_in := d_in0.out rfl;go_simp;(try simp only [sx]);refine hK.out _ _ ((hI.out _ _ _).2 ⟨true,true,true,false,_,_,_,_,_,rfl,(HF.out _ _ _ _).symm,S_,trivial,(fun _ => rfl),(fun _ => rfl),(fun _ => rfl),cf6,(fun _ => rfl),(fun h => nomatch h),(fun h => nomatch h),d_in0⟩)
      · obtain ⟨fb5,fb6,fb7,fb8,x50,x51,x52,x53,E_in,rfl,rfl,S_,_,mf5_6,mf6_7,mf7_8,cf6,cf7,cf8,d_in,d_in0⟩ := (hI.out _ _ _).1 h;obtain rfl : fb8 = false := hf;clear h;obtain rfl : fb7 = true := hd 7 (by decide);obtain rfl : fb6 = true := mf6_7.out rfl;obtain rfl : fb5 = true := mf5_6.out rfl;clear hd;rw [HF.out];obtain rfl := cf6.out rfl;obtain rfl := cf7.out rfl;have v_in := d_in0.out rfl;go_simp;(try simp only [sx]);refine hK.out _ _ ((hI.out _ _ _).2 ⟨true,true,true,true,_,_,_,_,_,rfl,(HF.out _ _ _ _).symm,S_,trivial,(fun _ => rfl),(fun _ => rfl),(fun _ => rfl),cf6,cf7,(fun _ => rfl),(fun h => nomatch h),d_in0⟩)
    · refine (hI.out _ _ _).2 ⟨false,false,false,false,_,_,_,_,eNo,rfl,(HF.out _ _ _ _).symm,(S1.out.no : Sep w.heap.size w [eNo,eBlk sb 63 [.int .i64 c.1,.slice AT c.2.length cp],eInts c.2 (.slice AT c.2.length cp),eBlk mb 37 [.slice p.A1 m.a.al.length p.c1,.int .i64 m.a.n,.slice p.A2 m.a.mr.length p.c2,.slice p.A3 m.a.ed.length p.c3,.slice B m.ac.length d,.int .i64 m.tk],eMdl m ⟨p,B,d⟩,eBlk xb 29 cs] w1),trivial,(fun h => nomatch h),(fun h => nomatch h),(fun h => nomatch h),(fun h => nomatch h),(fun h => nomatch h),(fun h => nomatch h),(fun _ => rfl),(fun h => nomatch h)⟩
   case rest =>
    clear T6 IC IR CL;obtain ⟨rfl,S0⟩ := hcut;have hl10 : l.length ≤ 10 := by omega
    clear hd1 hd2 h10;go_wp2_with fail
    go_loopw [10] (fun i wr => ∃ (k : Nat) (c : Ck) (AT : Option Addr) (cp : Nat),i = .int .i64 ↑k ∧ k ≤ l.length ∧ Hid (Okc m c) ∧ (SepW w [eBlk sb 63 [.int .i64 c.1,.slice AT c.2.length cp],eInts c.2 (.slice AT c.2.length cp),eBlk mb 37 [.slice p.A1 m.a.al.length p.c1,.int .i64 m.a.n,.slice p.A2 m.a.mr.length p.c2,.slice p.A3 m.a.ed.length p.c3,.slice B m.ac.length d,.int .i64 m.tk],eMdl m ⟨p,B,d⟩,eBlk xb 29 cs] wr)) (fun i _ => l.length + 1 - (intOf i).toNat)
    case atStart => exact ⟨0,c,AT,cp,rfl,Nat.zero_le _,OK0.out,S0.out⟩
    case round =>
     clear S0 OK0;obtain ⟨k,c,AT,cp,rfl,hk,OK,S⟩ := hrel;have CL : Hid (c.2.length ≤ 140737488355328) := by rw [Hid,OK.out.len SM.out]; decide
     have hle1 : decide ((k : Int) ≤ (l.length : Int)) = true := decide_eq_true (by omega);have hle2 : decide (k ≤ l.length) = true := decide_eq_true hk;have S1 : (SepW w [eInts (onL m c 0) (.slice none (onL m c 0).length 0),eBlk sb 63 [.int .i64 c.1,.slice AT c.2.length cp],eInts c.2 (.slice AT c.2.length cp),eBlk mb 37 [.slice p.A1 m.a.al.length p.c1,.int .i64 m.a.n,.slice p.A2 m.a.mr.length p.c2,.slice p.A3 m.a.ed.length p.c3,.slice B m.ac.length d,.int .i64 m.tk],eMdl m ⟨p,B,d⟩,eBlk xb 29 cs] wr) := S.out.nilOwn encI 1 3;clear S;go_wp2_with fail
     clear hle1 hle2;go_loopw [11,12] (fun v j wr => ∃ (t : Nat) (A0 : Option Addr) (c0 : Nat),j = .int .i64 ↑t ∧ v = .slice A0 (onL m c t).length c0 ∧ t ≤ 5 ∧ (SepW w [eInts (onL m c t) (.slice A0 (onL m c t).length c0),eBlk sb 63 [.int .i64 c.1,.slice AT c.2.length cp],eInts c.2 (.slice AT c.2.length cp),eBlk mb 37 [.slice p.A1 m.a.al.length p.c1,.int .i64 m.a.n,.slice p.A2 m.a.mr.length p.c2,.slice p.A3 m.a.ed.length p.c3,.slice B m.ac.length d,.int .i64 m.tk],eMdl m ⟨p,B,d⟩,eBlk xb 29 cs] wr)) (fun _ j _ => 5 - (intOf j).toNat)
     case atStart => exact ⟨0,none,0,rfl,rfl,by omega,S1.out⟩
     case round =>
      clear S1;obtain ⟨t,A0,c0,rfl,rfl,ht,S⟩ := hrel;by_cases ht5 : t < 5
      · have hd5 : decide ((t : Int) < 5) = true := decide_eq_true (by omega);have HA5 : Hid (m.all[t]? = some (t : Int)) := by
         rw [Hid,SM.out.all];match t,ht5 with
         | 0,_ => rfl
         | 1,_ => rfl
         | 2,_ => rfl
         | 3,_ => rfl
         | 4,_ => rfl
        obtain ⟨r,hr⟩ : ∃ r,r = m.eff (t : Int) c := ⟨_,rfl⟩;have SR : Hid (∀ (W : World),Md.At W m ⟨p,B,d⟩ → IntsAt W AT c.2 → Calls Try.prog 25 #[.agg #[.slice p.A1 m.a.al.length p.c1,.int .i64 m.a.n,.slice p.A2 m.a.mr.length p.c2,.slice p.A3 m.a.ed.length p.c3,.slice B m.ac.length d,.int .i64 m.tk],.agg #[.int .i64 c.1,.slice AT c.2.length cp],.int .i64 ↑t] W (GivesLastR (r.getD (0,[])) r.isSome W)) := fun W h h2 => by rw [hr]; exact (stepR_c m ⟨p,B,d⟩ c t AT cp W SM.out.ok h h2 OK.out.is_).mono fun _ _ g => g
        obtain ⟨dd,hdd⟩ : ∃ d,d = r.getD (0,[]) := ⟨_,rfl⟩;obtain ⟨bb,hbb⟩ : ∃ b,b = r.isSome := ⟨_,rfl⟩;rw [← hdd,← hbb] at SR;have HEB : Hid ((m.eff (t : Int) c).isSome = bb) := by rw [Hid,← hr,hbb]
        have hwr : IntKind.i64.wrap ((t : Int) + 1) = (t : Int) + 1 := IntWalk.i64_in _ (by omega);have HLN := Lib.hid (onL_len (m := m) (c := c) (k := t));clear hr hdd hbb;have f_sb0 := qkC S.out 1 rfl 0 rfl;have f_sb1 := qkC S.out 1 rfl 1 rfl;have f_mb0 := qkC S.out 3 rfl 0 rfl;have f_mb1 := qkC S.out 3 rfl 1 rfl;have f_mb2 := qkC S.out 3 rfl 2 rfl;have f_mb3 := qkC S.out 3 rfl 3 rfl;have f_mb4 := qkC S.out 3 rfl 4 rfl;have f_mb5 := qkC S.out 3 rfl 5 rfl;go_wp2_with fail
        refine (SR.out wr (S.out.mdAt 4 rfl SM.out.lens) (S.out.ints 2 rfl)).mono ?_;rintro e11 v11 ⟨A1,c1,rfl,T⟩;have T11 := qkN S.out T.out;clear f_sb0 f_sb1 f_mb0 f_mb1 f_mb2 f_mb3 f_mb4 f_mb5 T S;obtain ⟨nb,hg12⟩ : ∃ g,g = v11.heap.size := ⟨_,rfl⟩;go_upto_region 15 with fail
        rw [← hg12];refine wp_world (fun V => (SepW w [eBlk nb 63 [.int .i64 dd.1,.slice A1 dd.2.length c1],eInts dd.2 (.slice A1 dd.2.length c1),eInts (onL m c t) (.slice A0 (onL m c t).length c0),eBlk sb 63 [.int .i64 c.1,.slice AT c.2.length cp],eInts c.2 (.slice AT c.2.length cp),eBlk mb 37 [.slice p.A1 m.a.al.length p.c1,.int .i64 m.a.n,.slice p.A2 m.a.mr.length p.c2,.slice p.A3 m.a.ed.length p.c3,.slice B m.ac.length d,.int .i64 m.tk],eMdl m ⟨p,B,d⟩,eBlk xb 29 cs] V)) (T11.out.alloc' 63 [.int .i64 dd.1,.slice A1 dd.2.length c1] rfl hg12) fun v12 S' => ?_;have T12 := Lib.hid S'.out;clear S' T11 hg12;have T13 : (SepW w [eInts (onL m c t) (.slice A0 (onL m c t).length c0),eBlk sb 63 [.int .i64 c.1,.slice AT c.2.length cp],eInts c.2 (.slice AT c.2.length cp),eBlk mb 37 [.slice p.A1 m.a.al.length p.c1,.int .i64 m.a.n,.slice p.A2 m.a.mr.length p.c2,.slice p.A3 m.a.ed.length p.c3,.slice B m.ac.length d,.int .i64 m.tk],eMdl m ⟨p,B,d⟩,eBlk xb 29 cs] v12) := T12.out.pick [2,3,4,5,6,7] (by decide);clear T12;cases bb
        · have E : Hid (onL m c (t + 1) = onL m c t) := onL_no HA5.out HEB.out;go_wp2_with fail
          go_roundw
          case rel => exact ⟨t + 1,A0,c0,by go_num,by rw [E.out],by omega,by have h := T13.out; rw [← E.out] at h; exact h⟩
          case measure => simp [intOf]; omega
        · have E : Hid (onL m c (t + 1) = onL m c t ++ [(t : Int)]) := onL_yes HA5.out HEB.out;have hln : (onL m c t).length ≤ 33 := by have := HLN.out; omega
          go_wp2_with (at_builtin; refine wpList_pushS rfl _ _ 31 rfl (T13.out.alloc 3 [.int .i64 ↑t]) 1 rfl Try.underlying31 _ 8 intInfo rfl (by decide) rfl (t : Int) _ rfl rfl (one_cell _ _ [_] _ rfl) (encI_one _) (by omega) (by decide) ?_)
          intro A' c' w6 S6 _;have S7 : (SepW w [eInts (onL m c (t + 1)) (.slice A' ((onL m c t).length + 1) c'),eBlk sb 63 [.int .i64 c.1,.slice AT c.2.length cp],eInts c.2 (.slice AT c.2.length cp),eBlk mb 37 [.slice p.A1 m.a.al.length p.c1,.int .i64 m.a.n,.slice p.A2 m.a.mr.length p.c2,.slice p.A3 m.a.ed.length p.c3,.slice B m.ac.length d,.int .i64 m.tk],eMdl m ⟨p,B,d⟩,eBlk xb 29 cs] w6) := by rw [E.out]; exact S6.drop1
          have HN : Hid ((onL m c t).length + 1 = (onL m c (t + 1)).length) := by rw [E.out,List.length_append]; rfl
          clear S6 T13 hln;go_wp2_with fail
          go_roundw
          case rel => exact ⟨t + 1,A',c',by go_num,by rw [HN.out],by omega,by have h := S7.out; rw [HN.out] at h; exact h⟩
          case measure => simp [intOf]; omega
      · obtain rfl : t = 5 := by omega
        have hd5 : decide (((5 : Nat) : Int) < 5) = false := rfl;obtain ⟨L,hL⟩ : ∃ L,L = onL m c 5 := ⟨_,rfl⟩;rw [← hL] at S;rw [← hL];have e1 : enP m c = L := by unfold enP; rw [if_pos OK.out.e,hL,SM.out.all]; rfl
        obtain ⟨U,hU⟩ : ∃ U,U = urgL m c m.ac.length := ⟨_,rfl⟩;have e2 : urP m c = U := by unfold urP; rw [if_pos OK.out.e,hU]
        have EC : Hid (∀ (W : World),Md.At W m ⟨p,B,d⟩ → IntsAt W AT c.2 → m.a.al.length ≤ p.c1 → Calls Try.prog 21 #[.agg #[.slice p.A1 m.a.al.length p.c1,.int .i64 m.a.n,.slice p.A2 m.a.mr.length p.c2,.slice p.A3 m.a.ed.length p.c3,.slice B m.ac.length d,.int .i64 m.tk],.agg #[.int .i64 c.1,.slice AT c.2.length cp]] W (GivesLE L 0 W)) := fun W h h2 h3 => by
         have := enabledP_c m ⟨p,B,d⟩ c AT cp W SM.out.ok h h2 h3;rw [e1,OK.out.e] at this;exact this
        have UC : Hid (∀ (W : World),Md.At W m ⟨p,B,d⟩ → IntsAt W AT c.2 → Calls Try.prog 26 #[.agg #[.slice p.A1 m.a.al.length p.c1,.int .i64 m.a.n,.slice p.A2 m.a.mr.length p.c2,.slice p.A3 m.a.ed.length p.c3,.slice B m.ac.length d,.int .i64 m.tk],.agg #[.int .i64 c.1,.slice AT c.2.length cp]] W (GivesLE U 0 W)) := fun W h h2 => by
         have := urgentP_c m ⟨p,B,d⟩ c AT cp W SM.out.ok h h2;rw [e2,OK.out.e] at this;exact this
        have UR : Hid (∀ (W : World),Md.At W m ⟨p,B,d⟩ → IntsAt W AT c.2 → Calls Try.prog 27 #[.agg #[.slice p.A1 m.a.al.length p.c1,.int .i64 m.a.n,.slice p.A2 m.a.mr.length p.c2,.slice p.A3 m.a.ed.length p.c3,.slice B m.ac.length d,.int .i64 m.tk],.agg #[.int .i64 c.1,.slice AT c.2.length cp]] W (GivesEl U W)) := fun W h h2 => by
         rw [hU];exact (urgent44_c m ⟨p,B,d⟩ c AT cp W SM.out.ok h h2 OK.out.is_.len).mono fun _ _ g => g
        have KC : Hid (∀ (W : World),Md.At W m ⟨p,B,d⟩ → IntsAt W AT c.2 → Calls Try.prog 28 #[.agg #[.slice p.A1 m.a.al.length p.c1,.int .i64 m.a.n,.slice p.A2 m.a.mr.length p.c2,.slice p.A3 m.a.ed.length p.c3,.slice B m.ac.length d,.int .i64 m.tk],.agg #[.int .i64 c.1,.slice AT c.2.length cp]] W (Ret (.int .i64 0) W)) := fun W h h2 => by
         have := checkState_c m ⟨p,B,d⟩ c AT cp W SM.out.ok h h2;rw [OK.out.e] at this;exact this
        have LL : Hid (L.length ≤ 140737488355328) := by have := onL_len (m := m) (c := c) (k := 5); rw [Hid,hL]; omega
        have L5 : Hid (L.length ≤ 5) := by have := onL_len (m := m) (c := c) (k := 5); rw [Hid,hL]; omega
        have UL : Hid (U.length ≤ 140737488355328) := by have := urgL_len (m := m) (c := c) (k := m.ac.length); have h4 := SM.out.len; rw [Hid,hU]; omega
        have LM : Hid (∀ e,e ∈ L → e ∈ m.all ∧ (m.eff e c).isSome = true) := fun e he => by rw [hL] at he; exact onL_mem he
        clear hL hU e1 e2;have f_sb0 := qkC S.out 1 rfl 0 rfl;have f_sb1 := qkC S.out 1 rfl 1 rfl;have f_mb0 := qkC S.out 3 rfl 0 rfl;have f_mb1 := qkC S.out 3 rfl 1 rfl;have f_mb2 := qkC S.out 3 rfl 2 rfl;have f_mb3 := qkC S.out 3 rfl 3 rfl;have f_mb4 := qkC S.out 3 rfl 4 rfl;have f_mb5 := qkC S.out 3 rfl 5 rfl;go_wp2_with fail
        refine (EC.out wr (S.out.mdAt 4 rfl SM.out.lens) (S.out.ints 2 rfl) (S.out.mdCap 4 rfl)).mono ?_;rintro e21 v21 ⟨A1,c1,rfl,T⟩;have T21 := qkN S.out T.out;clear f_sb0 f_sb1 f_mb0 f_mb1 f_mb2 f_mb3 f_mb4 f_mb5 T S;have f_sb0 := qkC T21.out 2 rfl 0 rfl;have f_sb1 := qkC T21.out 2 rfl 1 rfl;have f_mb0 := qkC T21.out 4 rfl 0 rfl;have f_mb1 := qkC T21.out 4 rfl 1 rfl;have f_mb2 := qkC T21.out 4 rfl 2 rfl;have f_mb3 := qkC T21.out 4 rfl 3 rfl;have f_mb4 := qkC T21.out 4 rfl 4 rfl;have f_mb5 := qkC T21.out 4 rfl 5 rfl;go_wp2_with fail
        refine (UC.out v21 (T21.out.mdAt 5 rfl SM.out.lens) (T21.out.ints 3 rfl)).mono ?_;rintro e22 v22 ⟨A2,c2,rfl,T⟩;have T22 := qkN T21.out T.out;clear f_sb0 f_sb1 f_mb0 f_mb1 f_mb2 f_mb3 f_mb4 f_mb5 T T21;go_wp2_with fail
        refine (same44_c A1 A0 c1 c0 L L v22 (T22.out.ints 1 rfl) (T22.out.ints 2 rfl) LL.out LL.out).mono ?_;intro e23 v23 hs;obtain ⟨rfl,hb⟩ := hs.yes2 (rfl);have T23 := Lib.hid (T22.out.next hb);clear hb hs T22;have f_sb0 := qkC T23.out 3 rfl 0 rfl;have f_sb1 := qkC T23.out 3 rfl 1 rfl;have f_mb0 := qkC T23.out 5 rfl 0 rfl;have f_mb1 := qkC T23.out 5 rfl 1 rfl;have f_mb2 := qkC T23.out 5 rfl 2 rfl;have f_mb3 := qkC T23.out 5 rfl 3 rfl;have f_mb4 := qkC T23.out 5 rfl 4 rfl;have f_mb5 := qkC T23.out 5 rfl 5 rfl;go_wp2_with fail
        refine (UR.out v23 (T23.out.mdAt 6 rfl SM.out.lens) (T23.out.ints 4 rfl)).mono ?_;rintro e24 v24 ⟨A3,c3,rfl,T⟩;have T24 := qkN T23.out T.out;clear f_sb0 f_sb1 f_mb0 f_mb1 f_mb2 f_mb3 f_mb4 f_mb5 T T23;go_wp2_with fail
        refine (same44_c A2 A3 c2 c3 U U v24 (T24.out.ints 1 rfl) (T24.out.ints 0 rfl) UL.out UL.out).mono ?_;intro e25 v25 hs;obtain ⟨rfl,hb⟩ := hs.yes2 (rfl);have T25 := Lib.hid (T24.out.next hb);clear hb hs T24;have f_sb0 := qkC T25.out 4 rfl 0 rfl;have f_sb1 := qkC T25.out 4 rfl 1 rfl;have f_mb0 := qkC T25.out 6 rfl 0 rfl;have f_mb1 := qkC T25.out 6 rfl 1 rfl;have f_mb2 := qkC T25.out 6 rfl 2 rfl;have f_mb3 := qkC T25.out 6 rfl 3 rfl;have f_mb4 := qkC T25.out 6 rfl 4 rfl;have f_mb5 := qkC T25.out 6 rfl 5 rfl;go_wp2_with fail
        refine (KC.out v25 (T25.out.mdAt 7 rfl SM.out.lens) (T25.out.ints 5 rfl)).mono ?_;rintro e26 v26 ⟨rfl,hb⟩;have T26 := Lib.hid (T25.out.next hb);clear f_sb0 f_sb1 f_mb0 f_mb1 f_mb2 f_mb3 f_mb4 f_mb5 hb T25;have T27 : (SepW w [eInts L (.slice A0 L.length c0),eBlk sb 63 [.int .i64 c.1,.slice AT c.2.length cp],eInts c.2 (.slice AT c.2.length cp),eBlk mb 37 [.slice p.A1 m.a.al.length p.c1,.int .i64 m.a.n,.slice p.A2 m.a.mr.length p.c2,.slice p.A3 m.a.ed.length p.c3,.slice B m.ac.length d,.int .i64 m.tk],eMdl m ⟨p,B,d⟩,eBlk xb 29 cs] v26) := T26.out.pick [3,4,5,6,7,8] (by decide);clear T26;obtain ⟨bk,hbk⟩ : ∃ b,b = (decide (k = l.length) || decide (L.length = 0)) := ⟨_,rfl⟩;have HBK := Lib.hid hbk;clear hbk;go_upto_region 21 with fail
        go_cut [122] (fun v wx => v = .bool bk ∧ (SepW w [eInts L (.slice A0 L.length c0),eBlk sb 63 [.int .i64 c.1,.slice AT c.2.length cp],eInts c.2 (.slice AT c.2.length cp),eBlk mb 37 [.slice p.A1 m.a.al.length p.c1,.int .i64 m.a.n,.slice p.A2 m.a.mr.length p.c2,.slice p.A3 m.a.ed.length p.c3,.slice B m.ac.length d,.int .i64 m.tk],eMdl m ⟨p,B,d⟩,eBlk xb 29 cs] wx))
        case first =>
         by_cases h1 : k = l.length
         · have q1 : ((k : Int) == (l.length : Int)) = true := by rw [h1]; simp
           have q2 : (k == l.length) = true := by simpa using h1
           have hb1 : bk = true := by rw [HBK.out,decide_eq_true h1]; rfl
           subst hb1;clear h1;go_wp2_with fail
           go_meet
           exact ⟨by first | rfl | simp [*],T27.out⟩
         · have q1 : ((k : Int) == (l.length : Int)) = false := by simp; omega
           have q2 : (k == l.length) = false := by simpa using h1
           by_cases h0 : L.length = 0
           · have z1 : ((L.length : Int) == 0) = true := by rw [h0]; rfl
             have z2 : (L.length == 0) = true := by rw [h0]; rfl
             have hb1 : bk = true := by rw [HBK.out,decide_eq_true h0,Bool.or_true]
             subst hb1;clear h0 h1;go_wp2_with fail
             go_meet
             exact ⟨by first | rfl | simp [*],T27.out⟩
           · have z1 : ((L.length : Int) == 0) = false := beq_eq_false_iff_ne.2 (by omega);have z2 : (L.length == 0) = false := beq_eq_false_iff_ne.2 h0;have hb1 : bk = false := by rw [HBK.out,decide_eq_false h0,decide_eq_false h1]; rfl
             subst hb1;clear h0 h1;go_wp2_with fail
             go_meet
             exact ⟨by first | rfl | simp [*],T27.out⟩
        case rest =>
         clear T27 EC UC UR KC LL UL;obtain ⟨rfl,S⟩ := hcut;cases bk
         · have hkl : k < l.length := by
            have h := HBK.out;by_cases g : k = l.length
            · rw [decide_eq_true g] at h; cases h
            · omega
           have hL0 : L.length ≠ 0 := fun g => by
            have h := HBK.out;rw [decide_eq_true g,Bool.or_true] at h; cases h
           obtain ⟨bl,ol,y,hAl,_,hy,hyr,hyc⟩ := U8sAt.at (HL.out.below U8E.stays S.out.below) hkl;subst hAl;obtain ⟨j,hj⟩ : ∃ j,j = y.toNat % L.length := ⟨_,rfl⟩;have hjl : j < L.length := by rw [hj]; exact Nat.mod_lt _ (by omega)
           obtain ⟨bw,ow,e,hAw,_,he,hec⟩ := IntsAt.at (S.out.ints 0 rfl) hjl;subst hAw;have hmod : y.tmod (L.length : Int) = (j : Int) := by
            rw [Int.tmod_eq_emod_of_nonneg hyr.1,hj];have : y = ((y.toNat : Nat) : Int) := by omega
            rw [this];simp
           have hwy : IntKind.i64.wrap y = y := IntWalk.i64_in _ (by omega);have hjw : IntKind.i64.wrap (j : Int) = (j : Int) := IntWalk.i64_in _ (by have := L5.out; omega);obtain ⟨hm1,hm2⟩ := LM.out e (List.mem_of_getElem? he);obtain ⟨r,hr⟩ : ∃ r,r = m.eff e c := ⟨_,rfl⟩;rw [← hr] at hm2;obtain ⟨dd,hdd⟩ : ∃ d,d = r.getD (0,[]) := ⟨_,rfl⟩;have hrs := some_of hm2;rw [← hdd] at hrs;have DOK : Hid (Okc m dd) := OK.out.eff SM.out.ok (by rw [← hr]; exact hrs);have DL : Hid (dd.2.length ≤ 140737488355328) := by rw [Hid,DOK.out.len SM.out]; decide
           have SR2 : Hid (∀ (W : World),Md.At W m ⟨p,B,d⟩ → IntsAt W AT c.2 → Calls Try.prog 25 #[.agg #[.slice p.A1 m.a.al.length p.c1,.int .i64 m.a.n,.slice p.A2 m.a.mr.length p.c2,.slice p.A3 m.a.ed.length p.c3,.slice B m.ac.length d,.int .i64 m.tk],.agg #[.int .i64 c.1,.slice AT c.2.length cp],.int .i64 e] W (GivesLastR dd true W)) := fun W h h2 => by
            have := stepR_c m ⟨p,B,d⟩ c e AT cp W SM.out.ok h h2 OK.out.is_;rw [← hr,hrs] at this;exact this.mono fun _ _ g => g
           have SP : Hid (∀ (W : World),Md.At W m ⟨p,B,d⟩ → IntsAt W AT c.2 → m.a.al.length ≤ p.c1 → Calls Try.prog 22 #[.agg #[.slice p.A1 m.a.al.length p.c1,.int .i64 m.a.n,.slice p.A2 m.a.mr.length p.c2,.slice p.A3 m.a.ed.length p.c3,.slice B m.ac.length d,.int .i64 m.tk],.agg #[.int .i64 c.1,.slice AT c.2.length cp],.int .i64 e] W (GivesLast dd true 0 W)) := fun W h h2 h3 => by
            have := stepP_c m ⟨p,B,d⟩ c e AT cp W SM.out.ok h h2 h3;unfold spP at this
            rw [if_pos OK.out.e,if_pos hm1,← hr,hrs] at this;exact this.mono fun _ _ g => g
           have hl256 := hyr.2;have hwr : IntKind.i64.wrap ((k : Int) + 1) = (k : Int) + 1 := IntWalk.i64_in _ (by omega);have hL0' : ((L.length : Int) == 0) = false := beq_eq_false_iff_ne.2 (by omega);clear hy he hm1 hm2 hr hdd hrs hj hL0;go_upto_region 23 with fail
           clear hmod hyc hec hwy hjw hL0';have f_sb0 := qkC S.out 1 rfl 0 rfl;have f_sb1 := qkC S.out 1 rfl 1 rfl;have f_mb0 := qkC S.out 3 rfl 0 rfl;have f_mb1 := qkC S.out 3 rfl 1 rfl;have f_mb2 := qkC S.out 3 rfl 2 rfl;have f_mb3 := qkC S.out 3 rfl 3 rfl;have f_mb4 := qkC S.out 3 rfl 4 rfl;have f_mb5 := qkC S.out 3 rfl 5 rfl;go_wp2_with fail
           refine (SR2.out wc (S.out.mdAt 4 rfl SM.out.lens) (S.out.ints 2 rfl)).mono ?_;rintro e41 v41 ⟨A1,c1,rfl,T⟩;have T41 := qkN S.out T.out;clear f_sb0 f_sb1 f_mb0 f_mb1 f_mb2 f_mb3 f_mb4 f_mb5 T S;obtain ⟨nb,hg42⟩ : ∃ g,g = v41.heap.size := ⟨_,rfl⟩;go_upto_region 24 with fail
           rw [← hg42];refine wp_world (fun V => (SepW w [eBlk nb 63 [.int .i64 dd.1,.slice A1 dd.2.length c1],eInts dd.2 (.slice A1 dd.2.length c1),eInts L (.slice (some ⟨bw,ow,none⟩) L.length c0),eBlk sb 63 [.int .i64 c.1,.slice AT c.2.length cp],eInts c.2 (.slice AT c.2.length cp),eBlk mb 37 [.slice p.A1 m.a.al.length p.c1,.int .i64 m.a.n,.slice p.A2 m.a.mr.length p.c2,.slice p.A3 m.a.ed.length p.c3,.slice B m.ac.length d,.int .i64 m.tk],eMdl m ⟨p,B,d⟩,eBlk xb 29 cs] V)) (T41.out.alloc' 63 [.int .i64 dd.1,.slice A1 dd.2.length c1] rfl hg42) fun v42 S' => ?_;have T42 := Lib.hid S'.out;clear S' T41 hg42;have f_sb0 := qkC T42.out 3 rfl 0 rfl;have f_sb1 := qkC T42.out 3 rfl 1 rfl;have f_mb0 := qkC T42.out 5 rfl 0 rfl;have f_mb1 := qkC T42.out 5 rfl 1 rfl;have f_mb2 := qkC T42.out 5 rfl 2 rfl;have f_mb3 := qkC T42.out 5 rfl 3 rfl;have f_mb4 := qkC T42.out 5 rfl 4 rfl;have f_mb5 := qkC T42.out 5 rfl 5 rfl;go_wp2_with fail
           refine (SP.out v42 (T42.out.mdAt 6 rfl SM.out.lens) (T42.out.ints 4 rfl) (T42.out.mdCap 6 rfl)).mono ?_;rintro e43 v43 ⟨A2,c2,rfl,T⟩;have T43 := qkN T42.out T.out;clear f_sb0 f_sb1 f_mb0 f_mb1 f_mb2 f_mb3 f_mb4 f_mb5 T T42;obtain ⟨pb,hg44⟩ : ∃ g,g = v43.heap.size := ⟨_,rfl⟩;go_upto_region 25 with fail
           rw [← hg44];refine wp_world (fun V => (SepW w [eBlk pb 63 [.int .i64 dd.1,.slice A2 dd.2.length c2],eInts dd.2 (.slice A2 dd.2.length c2),eBlk nb 63 [.int .i64 dd.1,.slice A1 dd.2.length c1],eInts dd.2 (.slice A1 dd.2.length c1),eInts L (.slice (some ⟨bw,ow,none⟩) L.length c0),eBlk sb 63 [.int .i64 c.1,.slice AT c.2.length cp],eInts c.2 (.slice AT c.2.length cp),eBlk mb 37 [.slice p.A1 m.a.al.length p.c1,.int .i64 m.a.n,.slice p.A2 m.a.mr.length p.c2,.slice p.A3 m.a.ed.length p.c3,.slice B m.ac.length d,.int .i64 m.tk],eMdl m ⟨p,B,d⟩,eBlk xb 29 cs] V)) (T43.out.alloc' 63 [.int .i64 dd.1,.slice A2 dd.2.length c2] rfl hg44) fun v44 S' => ?_;have T44 := Lib.hid S'.out;clear S' T43 hg44;have f_nb0 := qkC T44.out 2 rfl 0 rfl;have f_nb1 := qkC T44.out 2 rfl 1 rfl;have f_pb0 := qkC T44.out 0 rfl 0 rfl;have f_pb1 := qkC T44.out 0 rfl 1 rfl;go_wp2_with fail
           refine (sameState_c dd dd A2 A1 c2 c1 v44 (T44.out.ints 1 rfl) (T44.out.ints 3 rfl) DL.out DL.out).mono ?_;intro e45 v45 hs;obtain ⟨rfl,hb⟩ := hs.yes2 (rfl);have T45 := Lib.hid (T44.out.next hb);clear f_nb0 f_nb1 f_pb0 f_pb1 hb hs T44;have f_nb0 := qkC T45.out 2 rfl 0 rfl;have f_nb1 := qkC T45.out 2 rfl 1 rfl;have f_sb0 := qkC T45.out 5 rfl 0 rfl;have f_sb1 := qkC T45.out 5 rfl 1 rfl;have g0 := BlkAt.free (T45.out.get 5 rfl) 0;have g1 := BlkAt.free (T45.out.get 5 rfl) 1;have U9 := Lib.hid ((T45.out.set 5 rfl 0 (.int .i64 dd.1)).set 5 rfl 1 (.slice A1 dd.2.length c1));clear T45;go_wp2_with fail
           go_roundw
           case rel => exact ⟨k + 1,dd,A1,c1,by go_num,by omega,DOK.out,U9.out.pick [5,3,7,8,9] (by decide)⟩
           case measure => simp [intOf]; omega
         · obtain ⟨r,hr⟩ : ∃ r,r = spP m c ev := ⟨_,rfl⟩;have SPE0 : Hid (∀ (W : World),Md.At W m ⟨p,B,d⟩ → IntsAt W AT c.2 → m.a.al.length ≤ p.c1 → Calls Try.prog 22 #[.agg #[.slice p.A1 m.a.al.length p.c1,.int .i64 m.a.n,.slice p.A2 m.a.mr.length p.c2,.slice p.A3 m.a.ed.length p.c3,.slice B m.ac.length d,.int .i64 m.tk],.agg #[.int .i64 c.1,.slice AT c.2.length cp],.int .i64 ev] W (GivesSE r W)) := fun W h h2 h3 => by rw [hr]; exact stepP_c m ⟨p,B,d⟩ c ev AT cp W SM.out.ok h h2 h3
           have HRR : Hid (r = if ev < 0 ∨ 4 < ev then (none,9) else (m.eff ev c,0)) := by
            rw [Hid,hr]; unfold spP;rw [if_pos OK.out.e];by_cases g : ev ∈ m.all
            · rw [if_pos g,if_neg];rw [SM.out.all] at g;simp only [List.mem_cons,List.not_mem_nil,or_false] at g;omega
            · rw [if_neg g,if_pos];rw [SM.out.all] at g;simp only [List.mem_cons,List.not_mem_nil,or_false] at g;omega
           clear hr;by_cases hout : ev < 0 ∨ 4 < ev
           · have hr2 : r = (none,9) := by rw [HRR.out,if_pos hout]
             subst hr2;obtain ⟨dd,hdd⟩ : ∃ d : Ck,d = (0,[]) := ⟨_,rfl⟩;have SPE : Hid (∀ (W : World),Md.At W m ⟨p,B,d⟩ → IntsAt W AT c.2 → m.a.al.length ≤ p.c1 → Calls Try.prog 22 #[.agg #[.slice p.A1 m.a.al.length p.c1,.int .i64 m.a.n,.slice p.A2 m.a.mr.length p.c2,.slice p.A3 m.a.ed.length p.c3,.slice B m.ac.length d,.int .i64 m.tk],.agg #[.int .i64 c.1,.slice AT c.2.length cp],.int .i64 ev] W (GivesLast dd false 9 W)) := fun W h h2 h3 => (SPE0.out W h h2 h3).mono fun _ _ ⟨A,cp,g1,g2⟩ => by rw [hdd]; exact ⟨A,cp,g1,g2⟩
             have hd0 : dd.2.length = 0 := by rw [hdd]; rfl
             have HD0 := Lib.hid hd0;clear hdd hd0 SPE0 HRR;have f_sb0 := qkC S.out 1 rfl 0 rfl;have f_sb1 := qkC S.out 1 rfl 1 rfl;have f_mb0 := qkC S.out 3 rfl 0 rfl;have f_mb1 := qkC S.out 3 rfl 1 rfl;have f_mb2 := qkC S.out 3 rfl 2 rfl;have f_mb3 := qkC S.out 3 rfl 3 rfl;have f_mb4 := qkC S.out 3 rfl 4 rfl;have f_mb5 := qkC S.out 3 rfl 5 rfl;go_wp2_with fail
             refine (SPE.out wc (S.out.mdAt 4 rfl SM.out.lens) (S.out.ints 2 rfl) (S.out.mdCap 4 rfl)).mono ?_;rintro e61 v61 ⟨A2,c2,rfl,T⟩;have T61 := qkN S.out T.out;clear f_sb0 f_sb1 f_mb0 f_mb1 f_mb2 f_mb3 f_mb4 f_mb5 T S;obtain ⟨pb,hg62⟩ : ∃ g,g = v61.heap.size := ⟨_,rfl⟩;go_upto_region 29 with fail
             rw [← hg62];refine wp_world (fun V => (SepW w [eBlk pb 63 [.int .i64 dd.1,.slice A2 dd.2.length c2],eInts dd.2 (.slice A2 dd.2.length c2),eInts L (.slice A0 L.length c0),eBlk sb 63 [.int .i64 c.1,.slice AT c.2.length cp],eInts c.2 (.slice AT c.2.length cp),eBlk mb 37 [.slice p.A1 m.a.al.length p.c1,.int .i64 m.a.n,.slice p.A2 m.a.mr.length p.c2,.slice p.A3 m.a.ed.length p.c3,.slice B m.ac.length d,.int .i64 m.tk],eMdl m ⟨p,B,d⟩,eBlk xb 29 cs] V)) (T61.out.alloc' 63 [.int .i64 dd.1,.slice A2 dd.2.length c2] rfl hg62) fun v62 S' => ?_;have T62 := Lib.hid S'.out;clear S' T61 hg62;by_cases h0 : ev < 0
             · have hz : decide (ev < 0) = true := decide_eq_true h0;clear h0 hout;have f_pb0 := qkC T62.out 0 rfl 0 rfl;have f_pb1 := qkC T62.out 0 rfl 1 rfl;rw [HD0.out] at f_pb1;go_wp2_with fail
               go_ret
               exact ⟨rfl,T62.out.below⟩
             · have hz : decide (ev < 0) = false := decide_eq_false h0;have hz2 : decide (4 < ev) = true := decide_eq_true (by omega);clear h0 hout;have f_pb0 := qkC T62.out 0 rfl 0 rfl;have f_pb1 := qkC T62.out 0 rfl 1 rfl;rw [HD0.out] at f_pb1;go_wp2_with fail
               go_ret
               exact ⟨rfl,T62.out.below⟩
           · have hr2 : r = (m.eff ev c,0) := by rw [HRR.out,if_neg hout]
             obtain ⟨ro,hro⟩ : ∃ o,o = m.eff ev c := ⟨_,rfl⟩;obtain ⟨dd,hdd⟩ : ∃ d,d = ro.getD (0,[]) := ⟨_,rfl⟩;obtain ⟨bb,hbb⟩ : ∃ b,b = ro.isSome := ⟨_,rfl⟩;have SPE : Hid (∀ (W : World),Md.At W m ⟨p,B,d⟩ → IntsAt W AT c.2 → m.a.al.length ≤ p.c1 → Calls Try.prog 22 #[.agg #[.slice p.A1 m.a.al.length p.c1,.int .i64 m.a.n,.slice p.A2 m.a.mr.length p.c2,.slice p.A3 m.a.ed.length p.c3,.slice B m.ac.length d,.int .i64 m.tk],.agg #[.int .i64 c.1,.slice AT c.2.length cp],.int .i64 ev] W (GivesLast dd bb 0 W)) := fun W h h2 h3 => (SPE0.out W h h2 h3).mono fun _ _ ⟨A,cp,g1,g2⟩ => by
              rw [hr2,← hro] at g1 g2;rw [hdd,hbb]; exact ⟨A,cp,g1,g2⟩
             have SRE : Hid (∀ (W : World),Md.At W m ⟨p,B,d⟩ → IntsAt W AT c.2 → Calls Try.prog 25 #[.agg #[.slice p.A1 m.a.al.length p.c1,.int .i64 m.a.n,.slice p.A2 m.a.mr.length p.c2,.slice p.A3 m.a.ed.length p.c3,.slice B m.ac.length d,.int .i64 m.tk],.agg #[.int .i64 c.1,.slice AT c.2.length cp],.int .i64 ev] W (GivesLastR dd bb W)) := fun W h h2 => (stepR_c m ⟨p,B,d⟩ c ev AT cp W SM.out.ok h h2 OK.out.is_).mono fun _ _ ⟨A,cp,g1,g2⟩ => by
              rw [← hro] at g1 g2;rw [hdd,hbb]; exact ⟨A,cp,g1,g2⟩
             have DL : Hid (dd.2.length ≤ 140737488355328) := by
              rw [Hid,hdd];cases hx2 : ro with
              | none => simp
              | some t => show t.2.length ≤ _; rw [(OK.out.eff SM.out.ok (by rw [← hro]; exact hx2)).len SM.out]; decide
             have hz : decide (ev < 0) = false := decide_eq_false (by omega);have hz2 : decide (4 < ev) = false := decide_eq_false (by omega);clear hr2 hro hdd hbb SPE0 HRR hout;have f_sb0 := qkC S.out 1 rfl 0 rfl;have f_sb1 := qkC S.out 1 rfl 1 rfl;have f_mb0 := qkC S.out 3 rfl 0 rfl;have f_mb1 := qkC S.out 3 rfl 1 rfl;have f_mb2 := qkC S.out 3 rfl 2 rfl;have f_mb3 := qkC S.out 3 rfl 3 rfl;have f_mb4 := qkC S.out 3 rfl 4 rfl;have f_mb5 := qkC S.out 3 rfl 5 rfl;go_wp2_with fail
             refine (SPE.out wc (S.out.mdAt 4 rfl SM.out.lens) (S.out.ints 2 rfl) (S.out.mdCap 4 rfl)).mono ?_;rintro e61 v61 ⟨A2,c2,rfl,T⟩;have T61 := qkN S.out T.out;clear f_sb0 f_sb1 f_mb0 f_mb1 f_mb2 f_mb3 f_mb4 f_mb5 T S;obtain ⟨pb,hg62⟩ : ∃ g,g = v61.heap.size := ⟨_,rfl⟩;go_upto_region 29 with fail
             rw [← hg62];refine wp_world (fun V => (SepW w [eBlk pb 63 [.int .i64 dd.1,.slice A2 dd.2.length c2],eInts dd.2 (.slice A2 dd.2.length c2),eInts L (.slice A0 L.length c0),eBlk sb 63 [.int .i64 c.1,.slice AT c.2.length cp],eInts c.2 (.slice AT c.2.length cp),eBlk mb 37 [.slice p.A1 m.a.al.length p.c1,.int .i64 m.a.n,.slice p.A2 m.a.mr.length p.c2,.slice p.A3 m.a.ed.length p.c3,.slice B m.ac.length d,.int .i64 m.tk],eMdl m ⟨p,B,d⟩,eBlk xb 29 cs] V)) (T61.out.alloc' 63 [.int .i64 dd.1,.slice A2 dd.2.length c2] rfl hg62) fun v62 S' => ?_;have T62 := Lib.hid S'.out;clear S' T61 hg62;have f_sb0 := qkC T62.out 3 rfl 0 rfl;have f_sb1 := qkC T62.out 3 rfl 1 rfl;have f_mb0 := qkC T62.out 5 rfl 0 rfl;have f_mb1 := qkC T62.out 5 rfl 1 rfl;have f_mb2 := qkC T62.out 5 rfl 2 rfl;have f_mb3 := qkC T62.out 5 rfl 3 rfl;have f_mb4 := qkC T62.out 5 rfl 4 rfl;have f_mb5 := qkC T62.out 5 rfl 5 rfl;go_wp2_with fail
             refine (SRE.out v62 (T62.out.mdAt 6 rfl SM.out.lens) (T62.out.ints 4 rfl)).mono ?_;rintro e63 v63 ⟨A3,c3,rfl,T⟩;have T63 := qkN T62.out T.out;clear f_sb0 f_sb1 f_mb0 f_mb1 f_mb2 f_mb3 f_mb4 f_mb5 T T62;obtain ⟨qb,hg64⟩ : ∃ g,g = v63.heap.size := ⟨_,rfl⟩;go_upto_region 32 with fail
             rw [← hg64];refine wp_world (fun V => (SepW w [eBlk qb 63 [.int .i64 dd.1,.slice A3 dd.2.length c3],eInts dd.2 (.slice A3 dd.2.length c3),eBlk pb 63 [.int .i64 dd.1,.slice A2 dd.2.length c2],eInts dd.2 (.slice A2 dd.2.length c2),eInts L (.slice A0 L.length c0),eBlk sb 63 [.int .i64 c.1,.slice AT c.2.length cp],eInts c.2 (.slice AT c.2.length cp),eBlk mb 37 [.slice p.A1 m.a.al.length p.c1,.int .i64 m.a.n,.slice p.A2 m.a.mr.length p.c2,.slice p.A3 m.a.ed.length p.c3,.slice B m.ac.length d,.int .i64 m.tk],eMdl m ⟨p,B,d⟩,eBlk xb 29 cs] V)) (T63.out.alloc' 63 [.int .i64 dd.1,.slice A3 dd.2.length c3] rfl hg64) fun v64 S' => ?_;have T64 := Lib.hid S'.out;clear S' T63 hg64;have f_pb0 := qkC T64.out 2 rfl 0 rfl;have f_pb1 := qkC T64.out 2 rfl 1 rfl;have f_qb0 := qkC T64.out 0 rfl 0 rfl;have f_qb1 := qkC T64.out 0 rfl 1 rfl;go_wp2_with fail
             refine (sameState_c dd dd A2 A3 c2 c3 v64 (T64.out.ints 3 rfl) (T64.out.ints 1 rfl) DL.out DL.out).mono ?_;intro e65 v65 hs;obtain ⟨rfl,hb⟩ := hs.yes2 (rfl);have T65 := Lib.hid (T64.out.next hb);clear f_pb0 f_pb1 f_qb0 f_qb1 hb hs T64;go_wp2_with fail
             go_ret
             exact ⟨rfl,T65.out.below⟩
end Go.Proofs.Ytimdepdbcdbikaa
