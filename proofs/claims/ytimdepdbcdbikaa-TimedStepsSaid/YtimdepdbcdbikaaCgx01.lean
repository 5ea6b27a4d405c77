/-
  What the row leans on.
-/
import Derived.Test.YtimdepdbcdbikaaBas21
import Derived.Test.YtimdepdbcdbikaaBas19
import Derived.BigQuiet
import Derived.Great.BuildSlice
import Derived.Deep.MidRow
set_option linter.unusedSimpArgs false
set_option linter.unusedVariables false
namespace Go.Proofs.Ytimdepdbcdbikaa
open Go.RowKit
set_option maxRecDepth 100000
abbrev SepW (w : World) (es : List Ent) (V : World) : Prop := Hid (Sep w.heap.size w es V)

set_option maxHeartbeats 4000000 in
theorem checkState_c (m : Md) (P : MdP) (c : Ck) (AT : Option Addr) (cp : Nat) (w : World) (hm : m.Ok) (hA : Md.At w m P) (hT : IntsAt w AT c.2) :
 Calls Try.prog 28 #[.agg (m.cells P).toArray,.agg #[.int .i64 c.1,.slice AT c.2.length cp]] w (Ret (.int .i64 (stE m c)) w) := by
 have h32 := hm.len32;have HM := Lib.hid hm;have HA := Lib.hid hA;have HT := Lib.hid hT;obtain ⟨p,B,d⟩ := P;clear hm hA hT;go_enter Try.func28,Try.ntmps28
 obtain ⟨mb,hmb⟩ : ∃ g,g = w.heap.size := ⟨_,rfl⟩;obtain ⟨sb,hsb⟩ : ∃ g,g = w.heap.size + 1 := ⟨_,rfl⟩;go_upto_region 1 with fail
 rw [← hsb,← hmb];refine wp_world (fun W => Sep w.heap.size w [eBlk sb 63 [.int .i64 c.1,.slice AT c.2.length cp],eBlk mb 37 [.slice p.A1 m.a.al.length p.c1,.int .i64 m.a.n,.slice p.A2 m.a.mr.length p.c2,.slice p.A3 m.a.ed.length p.c3,.slice B m.ac.length d,.int .i64 m.tk]] W) (((Sep.here w).alloc' _ [_,_,_,_,_,_] rfl hmb).alloc' _ [_,_] rfl (by rw [hsb]; simp)) fun W S => ?_;have S0 := Lib.hid S;clear S hmb hsb;have b0 := BlkAt.cell (S0.out.get 1 rfl) 0; have b1 := BlkAt.cell (S0.out.get 1 rfl) 1; have b2 := BlkAt.cell (S0.out.get 1 rfl) 2; have b3 := BlkAt.cell (S0.out.get 1 rfl) 3; have b4 := BlkAt.cell (S0.out.get 1 rfl) 4; have b5 := BlkAt.cell (S0.out.get 1 rfl) 5; simp only [List.getElem?_cons_succ,List.getElem?_cons_zero] at b0 b1 b2 b3 b4 b5;have s0 := BlkAt.cell (S0.out.get 0 rfl) 0; have s1 := BlkAt.cell (S0.out.get 0 rfl) 1; simp only [List.getElem?_cons_succ,List.getElem?_cons_zero] at s0 s1;have BG := begin_c m ⟨p,B,d⟩ c AT cp W HM.out (HA.out.below S0.out.below) (HT.out.below IntE.stays S0.out.below);dsimp only [Md.cells] at BG;have BG2 := Lib.hid BG;clear BG;go_wp2_with fail
 refine BG2.out.mono ?_;intro e1 w1 hbg;clear BG2 b0 b1 b2 b3 b4 b5 s0 s1;rcases hbg with ⟨r,rfl,hr,hr0,hb⟩ | ⟨q,rfl,h0,hqP,hqB,T⟩
 · have S1 := Lib.hid (S0.out.next hb);have HR := Lib.hid hr;clear hr hr0 hb S0;obtain ⟨cb,hcb⟩ : ∃ g,g = w1.heap.size := ⟨_,rfl⟩;go_upto_region 2 with (refine wpList_ckNew (0,[]) (by simp) rfl _ _ rfl _ rfl rfl (by kernel_rfl) ?_)
   rw [← hcb];refine wp_world (fun V => (SepW w [eBlk cb 109 (ckC (0,[])),eBlk sb 63 [.int .i64 c.1,.slice AT c.2.length cp],eBlk mb 37 [.slice p.A1 m.a.al.length p.c1,.int .i64 m.a.n,.slice p.A2 m.a.mr.length p.c2,.slice p.A3 m.a.ed.length p.c3,.slice B m.ac.length d,.int .i64 m.tk]] V)) (S1.out.alloc' _ (ckC (0,[])) rfl hcb) fun W3 S => ?_;have S3 := Lib.hid S.out;clear S S1 hcb;go_wp2_with fail
   go_ret
   exact ⟨by rw [← HR.out]; rfl,S3.out.below⟩
 · have S1 := Lib.hid (S0.out.news T.out);have HST := Lib.hid h0;have HQP := Lib.hid hqP;have HQB := Lib.hid hqB;have HQ : Hid (∀ V,Below w.heap.size w V → (eMc m q).ok V → Mch V m q) := fun V hb he => Mch.of he (by rw [HQP.out]; exact HA.out.below hb) HQB.out;have HC : Hid (m.Is c) := stE_is HM.out h0;have hc32 : c.2.length ≤ 32 := by rw [HC.out.len]; exact h32
   clear h0 hqP hqB T S0;simp only [List.append_eq,List.nil_append,List.cons_append] at S1;obtain ⟨cb,hcb⟩ : ∃ g,g = w1.heap.size := ⟨_,rfl⟩;go_upto_region 2 with (refine wpList_ckNew c hc32 rfl _ _ rfl _ rfl rfl (by kernel_rfl) ?_)
   rw [← hcb];refine wp_world (fun V => (SepW w [eBlk cb 109 (ckC c),eMc m q,eBlk sb 63 [.int .i64 c.1,.slice AT c.2.length cp],eBlk mb 37 [.slice p.A1 m.a.al.length p.c1,.int .i64 m.a.n,.slice p.A2 m.a.mr.length p.c2,.slice p.A3 m.a.ed.length p.c3,.slice B m.ac.length d,.int .i64 m.tk]] V)) (S1.out.alloc' _ (ckC c) rfl hcb) fun W3 S => ?_;have S3 := Lib.hid S.out;clear S S1 hcb;go_wp2_with fail
   go_ret
   exact ⟨by rw [HST.out]; rfl,S3.out.below⟩
def GivesIn (c : Ck) (w : World) (e : Ending) (w' : World) : Prop := ∃ (A : Option Addr) (cp : Nat),e = .returned (.tuple #[.agg #[.int .i64 c.1,.slice A c.2.length cp],.int .i64 0]) ∧ (SepW w [eInts c.2 (.slice A c.2.length cp)] w')
set_option maxHeartbeats 4000000 in
theorem initialP_c (m : Md) (P : MdP) (w : World) (hm : m.Ok) (hA : Md.At w m P) (hn : 0 < m.a.n) :
 Calls Try.prog 20 #[.agg (m.cells P).toArray] w (GivesIn m.start w) := by
 have h32 := hm.len32;have HM := Lib.hid hm;have HA := Lib.hid hA;have hdl : m.dfs.length = m.ac.length := by simp [Md.dfs]
 have hs32 : m.start.2.length ≤ 32 := by show m.dfs.length ≤ 32; omega
 have HDL := Lib.hid hdl;have hn0 : (m.a.n == 0) = false := by simp; omega
 have HN := Lib.hid hn;obtain ⟨p,B,d⟩ := P;clear hm hA hdl hn;go_enter Try.func20,Try.ntmps20
 obtain ⟨mb,hmb⟩ : ∃ g,g = w.heap.size := ⟨_,rfl⟩;obtain ⟨rb,hrb⟩ : ∃ g,g = w.heap.size + 1 := ⟨_,rfl⟩;go_upto_region 1 with fail
 rw [← hrb,← hmb];refine wp_world (fun W => Sep w.heap.size w [eBlk rb 63 [.int .i64 0,.slice none 0 0],eBlk mb 37 [.slice p.A1 m.a.al.length p.c1,.int .i64 m.a.n,.slice p.A2 m.a.mr.length p.c2,.slice p.A3 m.a.ed.length p.c3,.slice B m.ac.length d,.int .i64 m.tk]] W) (((Sep.here w).alloc' _ [_,_,_,_,_,_] rfl hmb).alloc' _ [_,_] rfl (by rw [hrb]; simp)) fun W S => ?_;have S0 := Lib.hid S;clear S hmb hrb;have b0 := BlkAt.cell (S0.out.get 1 rfl) 0; have b1 := BlkAt.cell (S0.out.get 1 rfl) 1; have b2 := BlkAt.cell (S0.out.get 1 rfl) 2; have b3 := BlkAt.cell (S0.out.get 1 rfl) 3; have b4 := BlkAt.cell (S0.out.get 1 rfl) 4; have b5 := BlkAt.cell (S0.out.get 1 rfl) 5; simp only [List.getElem?_cons_succ,List.getElem?_cons_zero] at b0 b1 b2 b3 b4 b5;have PC := check44_c m ⟨p,B,d⟩ W HM.out (HA.out.below S0.out.below);dsimp only [Md.cells] at PC;have PC2 := Lib.hid PC;have NC := newMachine_c m ⟨p,B,d⟩;dsimp only [Md.cells] at NC;have NC2 := Lib.hid NC;clear PC NC;go_wp2_with fail
 refine PC2.out.mono ?_;rintro e1 w1 ⟨rfl,hb⟩;have S1 := Lib.hid (S0.out.next hb);clear PC2 hb S0 b0 b1 b2 b3 b4 b5;have b0 := BlkAt.cell (S1.out.get 1 rfl) 0; have b1 := BlkAt.cell (S1.out.get 1 rfl) 1; have b2 := BlkAt.cell (S1.out.get 1 rfl) 2; have b3 := BlkAt.cell (S1.out.get 1 rfl) 3; have b4 := BlkAt.cell (S1.out.get 1 rfl) 4; have b5 := BlkAt.cell (S1.out.get 1 rfl) 5; simp only [List.getElem?_cons_succ,List.getElem?_cons_zero] at b0 b1 b2 b3 b4 b5;go_wp2_with fail
 refine (NC2.out _ HM.out (HA.out.below S1.out.below)).mono ?_;rintro e2 w2 ⟨q,rfl,hqP,hqB,T⟩;have S2 := Lib.hid (S1.out.news T.out);have HQP := Lib.hid hqP;have HQB := Lib.hid hqB;simp only [List.append_eq,List.nil_append,List.cons_append] at S2;have HQ2 := Lib.hid (Mch.of (S2.out.get 0 rfl) (by rw [hqP]; exact HA.out.below S2.out.below) hqB);have SC := Lib.hid (state_c m q m.start w2 HM.out HQ2.out (Md.Is.start HM.out HN.out));clear NC2 T S1 hqP hqB b0 b1 b2 b3 b4 b5 hn0;go_wp2_with (first | refine wpList_load_mid rfl 104 _ rfl q.g 6 rfl (ckT m.dfs) _ (HQ2.out.dfRange h32) Try.underlying104 rfl (by rw [ckT_info,ckT_len (by rw [HDL.out]; exact h32)]) ?_ | refine wpList_buildTo rfl 109 _ rfl (some 24) rfl (ckC m.start).toArray (Eq.trans (congrArg _ (by kernel_rfl)) (built_ck1 (t := m.dfs) (by rw [HDL.out]; exact h32))) ?_)
 refine SC.out.mono ?_;rintro e3 w3 ⟨A,c9,rfl,T⟩;have S3 := Lib.hid (S2.out.news T.out);simp only [List.append_eq,List.nil_append,List.cons_append] at S3;clear T SC S2 HQ2;have r0 := BlkAt.cell (S3.out.get 2 rfl) 0;have r1 := BlkAt.cell (S3.out.get 2 rfl) 1;have f0 := BlkAt.free (S3.out.get 2 rfl) 0;have f1 := BlkAt.free (S3.out.get 2 rfl) 1;have S5 := Lib.hid ((S3.out.set 2 rfl 0 (.int .i64 m.start.1)).set 2 rfl 1 (.slice A m.start.2.length c9));have g0 := BlkAt.cell (S5.out.get 2 rfl) 0;have g1 := BlkAt.cell (S5.out.get 2 rfl) 1;simp only [List.set_cons_succ,List.set_cons_zero,List.getElem?_cons_succ,List.getElem?_cons_zero] at r0 r1 g0 g1;clear S3 hs32;go_wp2_with fail
 refine bodyPost_ret (v := .tuple #[.agg #[.int .i64 m.start.1,.slice A m.start.2.length c9],.int .i64 0]) (by simp [results,Try.results20,go_sem, *]) rfl ?_;exact ⟨A,c9,rfl,S5.out.pick [0] (by decide)⟩
def urP (m : Md) (c : Ck) : List Int := if stE m c = 0 then urgL m c m.ac.length else []
def GivesLE (l : List Int) (r : Int) (w : World) (e : Ending) (w' : World) : Prop := ∃ (A : Option Addr) (cp : Nat),e = .returned (.tuple #[.slice A l.length cp,.int .i64 r]) ∧ (SepW w [eInts l (.slice A l.length cp)] w')
set_option maxHeartbeats 4000000 in
theorem urgentP_c (m : Md) (P : MdP) (c : Ck) (AT : Option Addr) (cp : Nat) (w : World) (hm : m.Ok) (hA : Md.At w m P) (hT : IntsAt w AT c.2) :
 Calls Try.prog 26 #[.agg (m.cells P).toArray,.agg #[.int .i64 c.1,.slice AT c.2.length cp]] w (GivesLE (urP m c) (stE m c) w) := by
 have h32 := hm.len32;have HM := Lib.hid hm;have HA := Lib.hid hA;have HT := Lib.hid hT;obtain ⟨p,B,d⟩ := P;clear hm hA hT;go_enter Try.func26,Try.ntmps26
 obtain ⟨mb,hmb⟩ : ∃ g,g = w.heap.size := ⟨_,rfl⟩;obtain ⟨sb,hsb⟩ : ∃ g,g = w.heap.size + 1 := ⟨_,rfl⟩;go_upto_region 1 with fail
 rw [← hsb,← hmb];refine wp_world (fun W => Sep w.heap.size w [eBlk sb 63 [.int .i64 c.1,.slice AT c.2.length cp],eBlk mb 37 [.slice p.A1 m.a.al.length p.c1,.int .i64 m.a.n,.slice p.A2 m.a.mr.length p.c2,.slice p.A3 m.a.ed.length p.c3,.slice B m.ac.length d,.int .i64 m.tk]] W) (((Sep.here w).alloc' _ [_,_,_,_,_,_] rfl hmb).alloc' _ [_,_] rfl (by rw [hsb]; simp)) fun W S => ?_;have S0 := Lib.hid S;clear S hmb hsb;have b0 := BlkAt.cell (S0.out.get 1 rfl) 0; have b1 := BlkAt.cell (S0.out.get 1 rfl) 1; have b2 := BlkAt.cell (S0.out.get 1 rfl) 2; have b3 := BlkAt.cell (S0.out.get 1 rfl) 3; have b4 := BlkAt.cell (S0.out.get 1 rfl) 4; have b5 := BlkAt.cell (S0.out.get 1 rfl) 5; simp only [List.getElem?_cons_succ,List.getElem?_cons_zero] at b0 b1 b2 b3 b4 b5;have s0 := BlkAt.cell (S0.out.get 0 rfl) 0; have s1 := BlkAt.cell (S0.out.get 0 rfl) 1; simp only [List.getElem?_cons_succ,List.getElem?_cons_zero] at s0 s1;have BG := begin_c m ⟨p,B,d⟩ c AT cp W HM.out (HA.out.below S0.out.below) (HT.out.below IntE.stays S0.out.below);dsimp only [Md.cells] at BG;have BG2 := Lib.hid BG;clear BG;go_wp2_with fail
 refine BG2.out.mono ?_;intro e1 w1 hbg;clear BG2 b0 b1 b2 b3 b4 b5 s0 s1;rcases hbg with ⟨r,rfl,hr,hr0,hb⟩ | ⟨q,rfl,h0,hqP,hqB,T⟩
 · have S1 := Lib.hid (S0.out.next hb);have HR := Lib.hid hr;have hne : (r != 0) = true := by simpa using hr0
   clear hr hr0 hb S0;obtain ⟨cb,hcb⟩ : ∃ g,g = w1.heap.size := ⟨_,rfl⟩;go_upto_region 2 with (refine wpList_ckNew (0,[]) (by simp) rfl _ _ rfl _ rfl rfl (by kernel_rfl) ?_)
   rw [← hcb];refine wp_world (fun V => (SepW w [eBlk cb 109 (ckC (0,[])),eBlk sb 63 [.int .i64 c.1,.slice AT c.2.length cp],eBlk mb 37 [.slice p.A1 m.a.al.length p.c1,.int .i64 m.a.n,.slice p.A2 m.a.mr.length p.c2,.slice p.A3 m.a.ed.length p.c3,.slice B m.ac.length d,.int .i64 m.tk]] V)) (S1.out.alloc' _ (ckC (0,[])) rfl hcb) fun W3 S => ?_;have S3 := Lib.hid S.out;clear S S1 hcb;go_wp2_with fail
   go_ret2
   have e1 : urP m c = [] := by unfold urP; rw [if_neg]; rw [← HR.out]; simpa using hne
   rw [e1,← HR.out];exact ⟨none,0,rfl,(S3.out.nil).nilOwn encI 1 3⟩
 · have S1 := Lib.hid (S0.out.news T.out);have HST := Lib.hid h0;have HQP := Lib.hid hqP;have HQB := Lib.hid hqB;have HQ : Hid (∀ V,Below w.heap.size w V → (eMc m q).ok V → Mch V m q) := fun V hb he => Mch.of he (by rw [HQP.out]; exact HA.out.below hb) HQB.out;have HC : Hid (m.Is c) := stE_is HM.out h0;have hc32 : c.2.length ≤ 32 := by rw [HC.out.len]; exact h32
   clear h0 hqP hqB T S0;simp only [List.append_eq,List.nil_append,List.cons_append] at S1;obtain ⟨cb,hcb⟩ : ∃ g,g = w1.heap.size := ⟨_,rfl⟩;go_upto_region 2 with (refine wpList_ckNew c hc32 rfl _ _ rfl _ rfl rfl (by kernel_rfl) ?_)
   rw [← hcb];refine wp_world (fun V => (SepW w [eBlk cb 109 (ckC c),eMc m q,eBlk sb 63 [.int .i64 c.1,.slice AT c.2.length cp],eBlk mb 37 [.slice p.A1 m.a.al.length p.c1,.int .i64 m.a.n,.slice p.A2 m.a.mr.length p.c2,.slice p.A3 m.a.ed.length p.c3,.slice B m.ac.length d,.int .i64 m.tk]] V)) (S1.out.alloc' _ (ckC c) rfl hcb) fun W3 S => ?_;have S3 : (SepW w [eInts (urgL m c 0) (.slice none (urgL m c 0).length 0),eBlk cb 109 (ckC c),eMc m q,eBlk sb 63 [.int .i64 c.1,.slice AT c.2.length cp],eBlk mb 37 [.slice p.A1 m.a.al.length p.c1,.int .i64 m.a.n,.slice p.A2 m.a.mr.length p.c2,.slice p.A3 m.a.ed.length p.c3,.slice B m.ac.length d,.int .i64 m.tk]] W3) := S.out.nilOwn encI 1 3;clear S S1 hcb;have b4 := BlkAt.cell (S3.out.get 4 rfl) 4; simp only [List.getElem?_cons_succ,List.getElem?_cons_zero] at b4;go_wp2_with fail
   clear b4;go_loopw [9,25] (fun v i wr => ∃ (k : Nat) (A0 : Option Addr) (c0 : Nat),i = .int .i64 ↑k ∧ v = .slice A0 (urgL m c k).length c0 ∧ k ≤ m.ac.length ∧ (SepW w [eInts (urgL m c k) (.slice A0 (urgL m c k).length c0),eBlk cb 109 (ckC c),eMc m q,eBlk sb 63 [.int .i64 c.1,.slice AT c.2.length cp],eBlk mb 37 [.slice p.A1 m.a.al.length p.c1,.int .i64 m.a.n,.slice p.A2 m.a.mr.length p.c2,.slice p.A3 m.a.ed.length p.c3,.slice B m.ac.length d,.int .i64 m.tk]] wr)) (fun _ i _ => m.ac.length - (intOf i).toNat)
   case atStart => exact ⟨0,none,0,rfl,rfl,Nat.zero_le _,S3.out⟩
   case round =>
    clear S3;obtain ⟨k,A0,c0,rfl,rfl,hk,S⟩ := hrel;by_cases hlt : k < m.ac.length
    · obtain ⟨gb,ob2,x,hB,hgb,hx,x0,x1,x2⟩ := AcsAt.at (HA.out.ac.below AcE.stays S.out.below) hlt;dsimp only at hB;subst hB;have hev : m.ev k = x.ev := Md.ev_get hx;have HEV := Lib.hid hev;have hwr : IntKind.i64.wrap ((k : Int) + 1) = (k : Int) + 1 := IntWalk.i64_in _ (by omega);have HLN := Lib.hid (urgL_len (m := m) (c := c) (k := k));obtain ⟨xb,hxb⟩ : ∃ g,g = wr.heap.size := ⟨_,rfl⟩;clear hx hgb hev;go_upto_region 8 with fail
      rw [← hxb];refine wp_world (fun V => (SepW w [eBlk xb 56 [.int .i64 x.ev,.int .i64 x.lo,.int .i64 x.up],eInts (urgL m c k) (.slice A0 (urgL m c k).length c0),eBlk cb 109 (ckC c),eMc m q,eBlk sb 63 [.int .i64 c.1,.slice AT c.2.length cp],eBlk mb 37 [.slice p.A1 m.a.al.length p.c1,.int .i64 m.a.n,.slice p.A2 m.a.mr.length p.c2,.slice p.A3 m.a.ed.length p.c3,.slice (some ⟨gb,ob2,none⟩) m.ac.length d,.int .i64 m.tk]] V)) (S.out.alloc' 56 [.int .i64 x.ev,.int .i64 x.lo,.int .i64 x.up] rfl hxb) fun W4 S' => ?_;have S4 := Lib.hid S'.out;clear S' S x0 x1 x2 hxb;obtain ⟨u,hu⟩ : ∃ u,u = m.urg c k := ⟨_,rfl⟩;have UC := Lib.hid (urgent_c m q c k W4 HM.out (HQ.out W4 S4.out.below (S4.out.get 3 rfl)) HC.out hlt);rw [← hu] at UC;have HUU := Lib.hid hu;clear hu;go_wp2_with (refine wpList_ckLoad c cb (S4.out.get 2 rfl) hc32 rfl _ rfl rfl ?_)
      refine UC.out.mono ?_;rintro e w5 ⟨rfl,hb⟩;have S5 := Lib.hid (S4.out.next hb);clear hb S4 UC;cases u
      · have E : Hid (urgL m c (k + 1) = urgL m c k) := urgL_no HUU.out.symm;go_wp2_with fail
        go_roundw
        case rel => exact ⟨k + 1,A0,c0,by go_num,by rw [E.out],by omega,by have h := S5.out.drop1; rw [← E.out] at h; exact h⟩
        case measure => simp [intOf]; omega
      · have E : Hid (urgL m c (k + 1) = urgL m c k ++ [x.ev]) := by rw [Hid,urgL_yes HUU.out.symm,HEV.out]
        have hln : (urgL m c k).length ≤ 32 := by have := HLN.out; omega
        have x0 := BlkAt.cell (S5.out.get 0 rfl) 0; have x1 := BlkAt.cell (S5.out.get 0 rfl) 1; have x2 := BlkAt.cell (S5.out.get 0 rfl) 2; simp only [List.getElem?_cons_succ,List.getElem?_cons_zero] at x0 x1 x2;go_wp2_with (at_builtin; refine wpList_pushS rfl _ _ 31 rfl (S5.out.alloc 3 [.int .i64 x.ev]) 2 rfl Try.underlying31 _ 8 intInfo rfl (by decide) rfl x.ev _ rfl rfl (one_cell _ _ [_] _ rfl) (encI_one _) (by omega) (by decide) ?_)
        intro A' c' w6 S6 _;have S7 : (SepW w [eInts (urgL m c (k + 1)) (.slice A' ((urgL m c k).length + 1) c'),eBlk cb 109 (ckC c),eMc m q,eBlk sb 63 [.int .i64 c.1,.slice AT c.2.length cp],eBlk mb 37 [.slice p.A1 m.a.al.length p.c1,.int .i64 m.a.n,.slice p.A2 m.a.mr.length p.c2,.slice p.A3 m.a.ed.length p.c3,.slice (some ⟨gb,ob2,none⟩) m.ac.length d,.int .i64 m.tk]] w6) := by rw [E.out]; exact S6.drop1.drop1
        have HN : Hid ((urgL m c k).length + 1 = (urgL m c (k + 1)).length) := by rw [E.out,List.length_append]; rfl
        clear S6 S5 x0 x1 x2 hln;go_wp2_with fail
        go_roundw
        case rel => exact ⟨k + 1,A',c',by go_num,by rw [HN.out],by omega,by have h := S7.out; rw [HN.out] at h; exact h⟩
        case measure => simp [intOf]; omega
    · obtain rfl : k = m.ac.length := by omega
      go_wp2_with fail
      go_ret2
      have e1 : urP m c = urgL m c m.ac.length := by unfold urP; rw [if_pos HST.out]
      rw [e1,HST.out];exact ⟨A0,c0,rfl,S.out.first⟩
end Go.Proofs.Ytimdepdbcdbikaa
