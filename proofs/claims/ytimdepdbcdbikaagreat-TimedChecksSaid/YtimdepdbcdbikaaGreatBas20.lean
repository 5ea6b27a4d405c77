/-
  timed.Enabled, Step.
-/
import Derived.Test.YtimdepdbcdbikaaGreatBas01
import Derived.Test.YtimdepdbcdbikaaGreatBas19
import Derived.BigQuiet
import Derived.Great.BuildSlice
import Derived.Deep.MidRow
import Derived.Deep.CutBlock
import Derived.Deep.DeepCutAuto
set_option linter.unusedSimpArgs false
set_option linter.unusedVariables false
namespace Go.Proofs.YtimdepdbcdbikaaGreat
open Go.RowKit
set_option maxRecDepth 100000
def onL (m : Md) (c : Ck) (k : Nat) : List Int := (m.all.take k).filter fun e => (m.eff e c).isSome
theorem onL_yes {m : Md} {c : Ck} {k : Nat} {e : Int} (h : m.all[k]? = some e) (hs : (m.eff e c).isSome = true) : onL m c (k + 1) = onL m c k ++ [e] := by unfold onL; rw [take_snoc h,List.filter_append]; simp [hs]
theorem onL_no {m : Md} {c : Ck} {k : Nat} {e : Int} (h : m.all[k]? = some e) (hs : (m.eff e c).isSome = false) : onL m c (k + 1) = onL m c k := by unfold onL; rw [take_snoc h,List.filter_append]; simp at hs; simp [hs]
theorem onL_len {m : Md} {c : Ck} {k : Nat} : (onL m c k).length ≤ k := by unfold onL; exact Nat.le_trans (List.length_filter_le _ _) (by rw [List.length_take]; omega)
def enP (m : Md) (c : Ck) : List Int := if stE m c = 0 then onL m c m.all.length else []
def spP (m : Md) (c : Ck) (e : Int) : Option Ck × Int := if stE m c = 0 then (if e ∈ m.all then (m.eff e c,0) else (none,9)) else (none,stE m c)
def GivesSE (r : Option Ck × Int) (w : World) (e : Ending) (w' : World) : Prop := ∃ (A : Option Addr) (cp : Nat),e = .returned (.tuple #[.agg #[.int .i64 (r.1.getD (0,[])).1,.slice A (r.1.getD (0,[])).2.length cp],.bool r.1.isSome,.int .i64 r.2]) ∧ Hid (Sep w.heap.size w [eInts (r.1.getD (0,[])).2 (.slice A (r.1.getD (0,[])).2.length cp)] w')
theorem GivesSE.no {w w' : World} {r : Int} (h : Below w.heap.size w w') : GivesSE (none,r) w (.returned (.tuple #[.agg #[.int .i64 0,.slice none 0 0],.bool false,.int .i64 r])) w' :=
 ⟨none,0,rfl,((Sep.here w).next h).nilOwn encI 1 3⟩
set_option maxHeartbeats 4000000 in
theorem enabledP_c (m : Md) (P : MdP) (c : Ck) (AT : Option Addr) (cp : Nat) (w : World) (hm : m.Ok) (hA : Md.At w m P) (hT : IntsAt w AT c.2) (hcap : m.a.al.length ≤ P.p.c1) :
 Calls Tryz.prog 15 #[.agg (m.cells P).toArray,.agg #[.int .i64 c.1,.slice AT c.2.length cp]] w (GivesLE (enP m c) (stE m c) w) := by
 have hall := all_len hm
 have EV : Hid (∀ W : World,Md.At W m P → Calls Tryz.prog 39 #[.agg (m.cells P).toArray] W (GivesMg m.all W)) := fun W h => events_c m P W hm h hcap
 have MA : Hid (∀ e,e ∈ m.all → e = m.tk ∨ e ∈ m.a.al) := fun e h => (mem_all.1 h).symm
 clear hcap
 have h32 := hm.len32
 have HM := Lib.hid hm
 have HA := Lib.hid hA
 have HT := Lib.hid hT
 obtain ⟨p,B,d⟩ := P
 clear hm hA hT
 go_enter Tryz.func15,Tryz.ntmps15
 obtain ⟨mb,hmb⟩ : ∃ g,g = w.heap.size := ⟨_,rfl⟩
 obtain ⟨sb,hsb⟩ : ∃ g,g = w.heap.size + 1 := ⟨_,rfl⟩
 go_upto_region 1 with fail
 rw [← hsb,← hmb]
 refine wp_world (fun W => Sep w.heap.size w [eBlk sb 52 [.int .i64 c.1,.slice AT c.2.length cp],eBlk mb 37 [.slice p.A1 m.a.al.length p.c1,.int .i64 m.a.n,.slice p.A2 m.a.mr.length p.c2,.slice p.A3 m.a.ed.length p.c3,.slice B m.ac.length d,.int .i64 m.tk]] W) (((Sep.here w).alloc' _ [_,_,_,_,_,_] rfl hmb).alloc' _ [_,_] rfl (by rw [hsb]; simp)) fun W S => ?_
 have S0 := Lib.hid S
 clear S hmb hsb
 have b0 := BlkAt.cell (S0.out.get 1 rfl) 0; have b1 := BlkAt.cell (S0.out.get 1 rfl) 1; have b2 := BlkAt.cell (S0.out.get 1 rfl) 2; have b3 := BlkAt.cell (S0.out.get 1 rfl) 3; have b4 := BlkAt.cell (S0.out.get 1 rfl) 4; have b5 := BlkAt.cell (S0.out.get 1 rfl) 5; simp only [List.getElem?_cons_succ,List.getElem?_cons_zero] at b0 b1 b2 b3 b4 b5
 have s0 := BlkAt.cell (S0.out.get 0 rfl) 0; have s1 := BlkAt.cell (S0.out.get 0 rfl) 1; simp only [List.getElem?_cons_succ,List.getElem?_cons_zero] at s0 s1
 have BG := begin_c m ⟨p,B,d⟩ c AT cp W HM.out (HA.out.below S0.out.below) (HT.out.below IntE.stays S0.out.below)
 dsimp only [Md.cells] at BG
 have BG2 := Lib.hid BG
 clear BG
 go_wp2_with fail
 refine BG2.out.mono ?_
 intro e1 w1 hbg
 clear BG2 b0 b1 b2 b3 b4 b5 s0 s1
 rcases hbg with ⟨r,rfl,hr,hr0,hb⟩ | ⟨q,rfl,h0,hqP,hqB,T⟩
 · have S1 := Lib.hid (S0.out.next hb)
   have HR := Lib.hid hr
   have hne : (r != 0) = true := by simpa using hr0
   clear hr hr0 hb S0
   obtain ⟨cb,hcb⟩ : ∃ g,g = w1.heap.size := ⟨_,rfl⟩
   go_upto_region 2 with (refine wpList_ckNew (0,[]) (by simp) rfl _ _ rfl _ rfl rfl (by kernel_rfl) ?_)
   rw [← hcb]
   refine wp_world (fun V => Hid (Sep w.heap.size w [eBlk cb 91 (ckC (0,[])),eBlk sb 52 [.int .i64 c.1,.slice AT c.2.length cp],eBlk mb 37 [.slice p.A1 m.a.al.length p.c1,.int .i64 m.a.n,.slice p.A2 m.a.mr.length p.c2,.slice p.A3 m.a.ed.length p.c3,.slice B m.ac.length d,.int .i64 m.tk]] V)) (S1.out.alloc' _ (ckC (0,[])) rfl hcb) fun W3 S => ?_
   have S3 := Lib.hid S.out
   clear S S1 hcb
   go_wp2_with fail
   go_ret2
   have e1 : enP m c = [] := by unfold enP; rw [if_neg]; rw [← HR.out]; simpa using hne
   rw [e1,← HR.out]
   exact ⟨none,0,rfl,(S3.out.nil).nilOwn encI 1 3⟩
 · have S1 := Lib.hid (S0.out.news T.out)
   have HST := Lib.hid h0
   have HQP := Lib.hid hqP
   have HQB := Lib.hid hqB
   have HQ : Hid (∀ V,Below w.heap.size w V → (eMc m q).ok V → Mch V m q) := fun V hb he => Mch.of he (by rw [HQP.out]; exact HA.out.below hb) HQB.out
   have HC : Hid (m.Is c) := stE_is HM.out h0
   have hc32 : c.2.length ≤ 32 := by rw [HC.out.len]; exact h32
   clear h0 hqP hqB T S0
   simp only [List.append_eq,List.nil_append,List.cons_append] at S1
   obtain ⟨cb,hcb⟩ : ∃ g,g = w1.heap.size := ⟨_,rfl⟩
   go_upto_region 2 with (refine wpList_ckNew c hc32 rfl _ _ rfl _ rfl rfl (by kernel_rfl) ?_)
   rw [← hcb]
   refine wp_world (fun V => Hid (Sep w.heap.size w [eBlk cb 91 (ckC c),eMc m q,eBlk sb 52 [.int .i64 c.1,.slice AT c.2.length cp],eBlk mb 37 [.slice p.A1 m.a.al.length p.c1,.int .i64 m.a.n,.slice p.A2 m.a.mr.length p.c2,.slice p.A3 m.a.ed.length p.c3,.slice B m.ac.length d,.int .i64 m.tk]] V)) (S1.out.alloc' _ (ckC c) rfl hcb) fun W3 S => ?_
   have S3 := Lib.hid S.out
   clear S S1 hcb
   have b0 := BlkAt.cell (S3.out.get 3 rfl) 0; have b1 := BlkAt.cell (S3.out.get 3 rfl) 1; have b2 := BlkAt.cell (S3.out.get 3 rfl) 2; have b3 := BlkAt.cell (S3.out.get 3 rfl) 3; have b4 := BlkAt.cell (S3.out.get 3 rfl) 4; have b5 := BlkAt.cell (S3.out.get 3 rfl) 5; simp only [List.getElem?_cons_succ,List.getElem?_cons_zero] at b0 b1 b2 b3 b4 b5
   have EV2 := EV.out W3 (HA.out.below S3.out.below)
   dsimp only [Md.cells] at EV2
   have EV3 := Lib.hid EV2
   clear EV2
   go_wp2_with fail
   refine EV3.out.mono ?_
   rintro e4 w4 ⟨AV,cV,rfl,ho,hb⟩
   have S4 : Hid (Sep w.heap.size w [eInts (onL m c 0) (.slice none (onL m c 0).length 0),eInts m.all (.slice AV m.all.length cV),eBlk cb 91 (ckC c),eMc m q,eBlk sb 52 [.int .i64 c.1,.slice AT c.2.length cp],eBlk mb 37 [.slice p.A1 m.a.al.length p.c1,.int .i64 m.a.n,.slice p.A2 m.a.mr.length p.c2,.slice p.A3 m.a.ed.length p.c3,.slice B m.ac.length d,.int .i64 m.tk]] w4) := (S3.out.newI ho hb).nilOwn encI 1 3
   clear EV3 EV ho hb S3 b0 b1 b2 b3 b4 b5
   go_wp2_with fail
   go_loopw [9,27] (fun v i wr => ∃ (k : Nat) (A0 : Option Addr) (c0 : Nat),i = .int .i64 (k : Int) ∧ v = .slice A0 (onL m c k).length c0 ∧ k ≤ m.all.length ∧ Hid (Sep w.heap.size w [eInts (onL m c k) (.slice A0 (onL m c k).length c0),eInts m.all (.slice AV m.all.length cV),eBlk cb 91 (ckC c),eMc m q,eBlk sb 52 [.int .i64 c.1,.slice AT c.2.length cp],eBlk mb 37 [.slice p.A1 m.a.al.length p.c1,.int .i64 m.a.n,.slice p.A2 m.a.mr.length p.c2,.slice p.A3 m.a.ed.length p.c3,.slice B m.ac.length d,.int .i64 m.tk]] wr)) (fun _ i _ => m.all.length - (intOf i).toNat)
   case atStart => exact ⟨0,none,0,rfl,rfl,Nat.zero_le _,S4.out⟩
   case round =>
    clear S4
    obtain ⟨k,A0,c0,rfl,rfl,hk,S⟩ := hrel
    by_cases hlt : k < m.all.length
    · obtain ⟨ba,oa,ev,hAe,hb,he,ce⟩ := IntsAt.at (S.out.ints 1 rfl) hlt
      subst hAe
      have HE := Lib.hid he
      have HMEM : Hid (ev = m.tk ∨ ev ∈ m.a.al) := MA.out _ (List.mem_of_getElem? he)
      obtain ⟨r,hr⟩ : ∃ r,r = m.eff ev c := ⟨_,rfl⟩
      obtain ⟨dd,hdd⟩ : ∃ d,d = r.getD (0,[]) := ⟨_,rfl⟩
      obtain ⟨bb,hbb⟩ : ∃ b,b = r.isSome := ⟨_,rfl⟩
      have HEF : Hid (ckV (m.eff ev c) = .tuple #[.agg (ckC dd).toArray,.bool bb]) := by rw [Hid,← hr,hdd,hbb]; rfl
      have HBB : Hid ((m.eff ev c).isSome = bb) := by rw [Hid,hbb,hr]
      have HD32 : Hid (dd.2.length ≤ 32) := by
       rw [Hid,hdd]
       cases r with
       | none => simp
       | some t => show t.2.length ≤ 32; rw [(Md.Is.eff HM.out HC.out hr.symm).len]; exact h32
      have hwr : IntKind.i64.wrap ((k : Int) + 1) = (k : Int) + 1 := IntWalk.i64_in _ (by omega)
      have HLN := Lib.hid (onL_len (m := m) (c := c) (k := k))
      clear he hb hr hdd hbb
      go_upto_region 8 with fail
      go_cut [13] (fun v wx => v = .bool bb ∧ Hid (Sep w.heap.size w [eInts (onL m c k) (.slice A0 (onL m c k).length c0),eInts m.all (.slice (some ⟨ba,oa,none⟩) m.all.length cV),eBlk cb 91 (ckC c),eMc m q,eBlk sb 52 [.int .i64 c.1,.slice AT c.2.length cp],eBlk mb 37 [.slice p.A1 m.a.al.length p.c1,.int .i64 m.a.n,.slice p.A2 m.a.mr.length p.c2,.slice p.A3 m.a.ed.length p.c3,.slice B m.ac.length d,.int .i64 m.tk]] wx))
      case first =>
       clear ce hwr
       have S1 := Lib.hid S.out.drew
       refine wp_region_held_drew (S := (fun V => Sep w.heap.size w [eBlk cb 91 (ckC c)] V)) (by kernel_rfl) ?_ (fun hHeld => ?_)
       · exact S1.out.pick [2] (by decide)
       generalize hwz : wr.drew = w1 at *
       clear hwz
       rw [show Array.replicate _ false = #[false,false,false,false,false,false,false,false,false,false,false] from rfl]
       refine tkP 0 rfl hHeld ?_
       try simp only [sx]
       refine tkP 1 rfl hHeld ?_
       try simp only [sx]
       refine wpAnyH_take (i := 3) (v := _) rfl (by kernel_rfl) (by kernel_rfl) (by kernel_rfl) (fun _ _ _ h => h) (yieldsIf_load_mid (by kernel_rfl) 91 (.tmp 7) rfl cb 0 rfl (ckC c) _ (fun V hSw => range_of (Sep.get (show Sep w.heap.size w _ V from hSw) 0 rfl)) Tryz.underlying91 rfl (by rw [ck_info,ckC_len hc32])) hHeld ?_
       try simp only [sx]
       refine act_name ?_
       intro A0 hA0
       obtain ⟨F,hF⟩ : ∃ F : Value → Value → Value → Value → Value → Value → Value → Act,Hid (∀ x34 x36 x31 x37 x38 x12 x13,F x34 x36 x31 x37 x38 x12 x13 = (((((((A0.put (some 34) x34).put (some 36) x36).put (some 31) x31).put (some 37) x37).put (some 38) x38).put (some 12) x12).put (some 13) x13)) := ⟨fun x34 x36 x31 x37 x38 x12 x13 => (((((((A0.put (some 34) x34).put (some 36) x36).put (some 31) x31).put (some 37) x37).put (some 38) x38).put (some 12) x12).put (some 13) x13),fun _ _ _ _ _ _ _ => rfl⟩
       subst hA0
       unfold Hid at hF
       simp only [List.getElem_toArray,List.getElem_cons_zero,List.getElem_cons_succ,Act.put,List.setIfInBounds_toArray,List.set_cons_zero,List.set_cons_succ] at hF
       have HF := Lib.hid hF
       clear hF
       obtain ⟨INV,hI⟩ : ∃ I : Array Bool → Act → World → Prop,Hid (∀ l_ a_ W_,I l_ a_ W_ ↔ ∃ (fb2 fb4 fb5 fb6 fb7 fb8 fb9 fb10 : Bool) (x34 x36 x31 x37 x38 x12 x13 : Value) (E_fn E_nb : Ent),l_ = #[true,true,fb2,true,fb4,fb5,fb6,fb7,fb8,fb9,fb10] ∧ a_ = F x34 x36 x31 x37 x38 x12 x13 ∧ Hid (Sep w.heap.size w [E_fn,E_nb,eInts (onL m c k) (.slice A0 (onL m c k).length c0),eInts m.all (.slice (some ⟨ba,oa,none⟩) m.all.length cV),eBlk cb 91 (ckC c),eMc m q,eBlk sb 52 [.int .i64 c.1,.slice AT c.2.length cp],eBlk mb 37 [.slice p.A1 m.a.al.length p.c1,.int .i64 m.a.n,.slice p.A2 m.a.mr.length p.c2,.slice p.A3 m.a.ed.length p.c3,.slice B m.ac.length d,.int .i64 m.tk]] W_) ∧ True ∧ Hid (fb4 = true → fb2 = true) ∧ Hid (fb5 = true → fb4 = true) ∧ Hid (fb6 = true → fb5 = true) ∧ Hid (fb7 = true → fb5 = true) ∧ Hid (fb9 = true → fb6 = true) ∧ Hid (fb9 = true → fb8 = true) ∧ Hid (fb10 = true → fb7 = true) ∧ Hid (fb10 = true → fb9 = true) ∧ Hid (fb4 = true → x36 = .tuple #[.agg (ckC dd).toArray,.bool bb]) ∧ Hid (fb5 = true → x31 = .tuple #[.agg (ckC dd).toArray,.bool bb]) ∧ Hid (fb6 = true → x37 = .agg (ckC dd).toArray) ∧ Hid (fb7 = true → x38 = .bool bb) ∧ Hid (fb10 = true → x13 = .bool bb) ∧ Hid (fb2 = false → E_fn = eNo) ∧ Hid (fb2 = true → E_fn = eEff m q ev x34) ∧ Hid (fb8 = false → E_nb = eNo) ∧ Hid (fb8 = true → fb9 = false → ∃ g,x12 = .pointer (some ⟨g,0,none⟩) ∧ E_nb = eBlk g 91 (ckC (0,[]))) ∧ Hid (fb9 = true → ∃ g,x12 = .pointer (some ⟨g,0,none⟩) ∧ E_nb = eBlk g 91 (ckC dd))) := ⟨_,fun _ _ _ => Iff.rfl⟩
       refine wpAnyH_inv (INV := INV) (D := [[],[],[0,1],[],[2,3],[4],[5],[5],[],[0,1,2,3,4,5,6,8],[0,1,2,3,4,5,6,7,8,9]]) [2,4,5,6,7,8,9,10] (by kernel_rfl) (fun l_ a_ W_ h => ?_) (fun l_ a_ W_ h => ?_) (fun l_ a_ W_ h hall => ?_) ?_ _ _ _ _ (by decide) ?_
       · obtain ⟨fb2,fb4,fb5,fb6,fb7,fb8,fb9,fb10,x34,x36,x31,x37,x38,x12,x13,E_fn,E_nb,rfl,rfl,S_,_,mf2_4,mf4_5,mf5_6,mf5_7,mf6_9,mf8_9,mf7_10,mf9_10,cf4,cf5,cf6,cf7,cf10,d_fn,d_fn0,d_nb,d_nb0,d_nb1⟩ := (hI.out _ _ _).1 h
         exact S_.out.pick [4] (by decide)
       · obtain ⟨fb2,fb4,fb5,fb6,fb7,fb8,fb9,fb10,x34,x36,x31,x37,x38,x12,x13,E_fn,E_nb,rfl,rfl,S_,_,mf2_4,mf4_5,mf5_6,mf5_7,mf6_9,mf8_9,mf7_10,mf9_10,cf4,cf5,cf6,cf7,cf10,d_fn,d_fn0,d_nb,d_nb0,d_nb1⟩ := (hI.out _ _ _).1 h
         rfl
       · obtain ⟨fb2,fb4,fb5,fb6,fb7,fb8,fb9,fb10,x34,x36,x31,x37,x38,x12,x13,E_fn,E_nb,rfl,rfl,S_,_,mf2_4,mf4_5,mf5_6,mf5_7,mf6_9,mf8_9,mf7_10,mf9_10,cf4,cf5,cf6,cf7,cf10,d_fn,d_fn0,d_nb,d_nb0,d_nb1⟩ := (hI.out _ _ _).1 h
         obtain rfl : fb2 = true := hall 2 (by decide)
         obtain rfl : fb4 = true := hall 4 (by decide)
         obtain rfl : fb5 = true := hall 5 (by decide)
         obtain rfl : fb6 = true := hall 6 (by decide)
         obtain rfl : fb7 = true := hall 7 (by decide)
         obtain rfl : fb8 = true := hall 8 (by decide)
         obtain rfl : fb9 = true := hall 9 (by decide)
         obtain rfl : fb10 = true := hall 10 (by decide)
         clear hall h hI INV
         rw [HF.out]
         clear HF F
         obtain rfl := cf4.out rfl
         obtain rfl := cf5.out rfl
         obtain rfl := cf6.out rfl
         obtain rfl := cf7.out rfl
         obtain rfl := cf10.out rfl
         have v_fn := d_fn0.out rfl
         have v_nb := d_nb1.out rfl
         clear mf2_4 mf4_5 mf5_6 mf5_7 mf6_9 mf8_9 mf7_10 mf9_10 cf4 cf5 cf6 cf7 cf10 d_fn d_fn0 d_nb d_nb0 d_nb1
         obtain ⟨g,rfl,rfl⟩ := v_nb
         have S9 := S_
         go_wp2_with fail
         go_meet
         exact ⟨rfl,S9.out.pick [2,3,4,5,6,7] (by decide)⟩
       · clear hHeld S1
         refine StepsI.cons rfl (fun l_ a_ W_ h hf hd K hK => ?_) (StepsI.cons rfl (fun l_ a_ W_ h hf hd K hK => ?_) (StepsI.cons rfl (fun l_ a_ W_ h hf hd K hK => ?_) (StepsI.cons rfl (fun l_ a_ W_ h hf hd K hK => ?_) (StepsI.cons rfl (fun l_ a_ W_ h hf hd K hK => ?_) (StepsI.cons rfl (fun l_ a_ W_ h hf hd K hK => ?_) (StepsI.cons rfl (fun l_ a_ W_ h hf hd K hK => ?_) (StepsI.cons rfl (fun l_ a_ W_ h hf hd K hK => ?_) (StepsI.nil))))))))
         · obtain ⟨fb2,fb4,fb5,fb6,fb7,fb8,fb9,fb10,x34,x36,x31,x37,x38,x12,x13,E_fn,E_nb,rfl,rfl,S_,_,mf2_4,mf4_5,mf5_6,mf5_7,mf6_9,mf8_9,mf7_10,mf9_10,cf4,cf5,cf6,cf7,cf10,d_fn,d_fn0,d_nb,d_nb0,d_nb1⟩ := (hI.out _ _ _).1 h
           obtain rfl : fb2 = false := hf
           clear h
           obtain rfl : fb4 = false := by cases fb4 with | false => rfl | true => exact nomatch (mf2_4.out rfl)
           obtain rfl : fb5 = false := by cases fb5 with | false => rfl | true => exact nomatch (mf4_5.out rfl)
           obtain rfl : fb6 = false := by cases fb6 with | false => rfl | true => exact nomatch (mf5_6.out rfl)
           obtain rfl : fb7 = false := by cases fb7 with | false => rfl | true => exact nomatch (mf5_7.out rfl)
           obtain rfl : fb9 = false := by cases fb9 with | false => rfl | true => exact nomatch (mf6_9.out rfl)
           obtain rfl : fb10 = false := by cases fb10 with | false => rfl | true => exact nomatch (mf7_10.out rfl)
           clear hd
           rw [HF.out]
           have v_fn := d_fn.out rfl
           obtain rfl := v_fn
           go_simp
           refine (effect_c m q ev W_ HM.out (HQ.out W_ S_.out.below (S_.out.get 5 rfl)) HMEM.out).mono ?_
           rintro e_ W2 ⟨fv,rfl,T⟩
           have S2 := Lib.hid (S_.out.fill1 0 rfl T.out)
           clear T
           try simp only [sx]
           refine hK.out _ _ ((hI.out _ _ _).2 ⟨true,false,false,false,false,fb8,false,false,_,_,_,_,_,_,_,_,_,rfl,(HF.out _ _ _ _ _ _ _).symm,S2,trivial,(fun _ => rfl),(fun h => nomatch h),(fun h => nomatch h),(fun h => nomatch h),(fun h => nomatch h),(fun h => nomatch h),(fun h => nomatch h),(fun h => nomatch h),(fun h => nomatch h),(fun h => nomatch h),(fun h => nomatch h),(fun h => nomatch h),(fun h => nomatch h),(fun h => nomatch h),(fun _ => rfl),d_nb,d_nb0,(fun h => nomatch h)⟩)
         · obtain ⟨fb2,fb4,fb5,fb6,fb7,fb8,fb9,fb10,x34,x36,x31,x37,x38,x12,x13,E_fn,E_nb,rfl,rfl,S_,_,mf2_4,mf4_5,mf5_6,mf5_7,mf6_9,mf8_9,mf7_10,mf9_10,cf4,cf5,cf6,cf7,cf10,d_fn,d_fn0,d_nb,d_nb0,d_nb1⟩ := (hI.out _ _ _).1 h
           obtain rfl : fb4 = false := hf
           clear h
           obtain rfl : fb2 = true := hd 2 (by decide)
           obtain rfl : fb5 = false := by cases fb5 with | false => rfl | true => exact nomatch (mf4_5.out rfl)
           obtain rfl : fb6 = false := by cases fb6 with | false => rfl | true => exact nomatch (mf5_6.out rfl)
           obtain rfl : fb7 = false := by cases fb7 with | false => rfl | true => exact nomatch (mf5_7.out rfl)
           obtain rfl : fb9 = false := by cases fb9 with | false => rfl | true => exact nomatch (mf6_9.out rfl)
           obtain rfl : fb10 = false := by cases fb10 with | false => rfl | true => exact nomatch (mf7_10.out rfl)
           clear hd
           rw [HF.out]
           have v_fn := d_fn0.out rfl
           obtain rfl := v_fn
           obtain ⟨F,pre,post,hfv,ec,HCA⟩ := EffOk.call (S_.out.get 0 rfl) HM.out (HQ.out W_ S_.out.below (S_.out.get 5 rfl)) c HC.out
           rw [HEF.out] at HCA
           subst hfv
           go_simp
           refine HCA.mono ?_
           rintro e_ W2 ⟨rfl,hb⟩
           have S2 := Lib.hid (S_.out.next hb)
           clear hb HCA
           try simp only [sx]
           refine hK.out _ _ ((hI.out _ _ _).2 ⟨true,true,false,false,false,fb8,false,false,_,_,_,_,_,_,_,_,_,rfl,(HF.out _ _ _ _ _ _ _).symm,S2,trivial,(fun _ => rfl),(fun _ => rfl),(fun h => nomatch h),(fun h => nomatch h),(fun h => nomatch h),(fun h => nomatch h),(fun h => nomatch h),(fun h => nomatch h),(fun _ => rfl),(fun h => nomatch h),(fun h => nomatch h),(fun h => nomatch h),(fun h => nomatch h),(fun h => nomatch h),d_fn0,d_nb,d_nb0,(fun h => nomatch h)⟩)
         · obtain ⟨fb2,fb4,fb5,fb6,fb7,fb8,fb9,fb10,x34,x36,x31,x37,x38,x12,x13,E_fn,E_nb,rfl,rfl,S_,_,mf2_4,mf4_5,mf5_6,mf5_7,mf6_9,mf8_9,mf7_10,mf9_10,cf4,cf5,cf6,cf7,cf10,d_fn,d_fn0,d_nb,d_nb0,d_nb1⟩ := (hI.out _ _ _).1 h
           obtain rfl : fb5 = false := hf
           clear h
           obtain rfl : fb4 = true := hd 4 (by decide)
           obtain rfl : fb2 = true := mf2_4.out rfl
           obtain rfl : fb6 = false := by cases fb6 with | false => rfl | true => exact nomatch (mf5_6.out rfl)
           obtain rfl : fb7 = false := by cases fb7 with | false => rfl | true => exact nomatch (mf5_7.out rfl)
           obtain rfl : fb9 = false := by cases fb9 with | false => rfl | true => exact nomatch (mf6_9.out rfl)
           obtain rfl : fb10 = false := by cases fb10 with | false => rfl | true => exact nomatch (mf7_10.out rfl)
           clear hd
           rw [HF.out]
           obtain rfl := cf4.out rfl
           have v_fn := d_fn0.out rfl
           go_simp
           try simp only [sx]
           refine hK.out _ _ ((hI.out _ _ _).2 ⟨true,true,true,false,false,fb8,false,false,_,_,_,_,_,_,_,_,_,rfl,(HF.out _ _ _ _ _ _ _).symm,S_,trivial,(fun _ => rfl),(fun _ => rfl),(fun _ => rfl),(fun _ => rfl),(fun h => nomatch h),(fun h => nomatch h),(fun h => nomatch h),(fun h => nomatch h),cf4,(fun _ => rfl),(fun h => nomatch h),(fun h => nomatch h),(fun h => nomatch h),(fun h => nomatch h),d_fn0,d_nb,d_nb0,(fun h => nomatch h)⟩)
         · obtain ⟨fb2,fb4,fb5,fb6,fb7,fb8,fb9,fb10,x34,x36,x31,x37,x38,x12,x13,E_fn,E_nb,rfl,rfl,S_,_,mf2_4,mf4_5,mf5_6,mf5_7,mf6_9,mf8_9,mf7_10,mf9_10,cf4,cf5,cf6,cf7,cf10,d_fn,d_fn0,d_nb,d_nb0,d_nb1⟩ := (hI.out _ _ _).1 h
           obtain rfl : fb6 = false := hf
           clear h
           obtain rfl : fb5 = true := hd 5 (by decide)
           obtain rfl : fb4 = true := mf4_5.out rfl
           obtain rfl : fb2 = true := mf2_4.out rfl
           obtain rfl : fb9 = false := by cases fb9 with | false => rfl | true => exact nomatch (mf6_9.out rfl)
           obtain rfl : fb10 = false := by cases fb10 with | false => rfl | true => exact nomatch (mf9_10.out rfl)
           clear hd
           rw [HF.out]
           obtain rfl := cf4.out rfl
           obtain rfl := cf5.out rfl
           have v_fn := d_fn0.out rfl
           go_simp
           try simp only [sx]
           refine hK.out _ _ ((hI.out _ _ _).2 ⟨true,true,true,true,fb7,fb8,false,false,_,_,_,_,_,_,_,_,_,rfl,(HF.out _ _ _ _ _ _ _).symm,S_,trivial,(fun _ => rfl),(fun _ => rfl),(fun _ => rfl),(fun _ => rfl),(fun _ => rfl),(fun h => nomatch h),(fun h => nomatch h),(fun h => nomatch h),cf4,cf5,(fun _ => rfl),cf7,(fun h => nomatch h),(fun h => nomatch h),d_fn0,d_nb,d_nb0,(fun h => nomatch h)⟩)
         · obtain ⟨fb2,fb4,fb5,fb6,fb7,fb8,fb9,fb10,x34,x36,x31,x37,x38,x12,x13,E_fn,E_nb,rfl,rfl,S_,_,mf2_4,mf4_5,mf5_6,mf5_7,mf6_9,mf8_9,mf7_10,mf9_10,cf4,cf5,cf6,cf7,cf10,d_fn,d_fn0,d_nb,d_nb0,d_nb1⟩ := (hI.out _ _ _).1 h
           obtain rfl : fb7 = false := hf
           clear h
           obtain rfl : fb5 = true := hd 5 (by decide)
           obtain rfl : fb4 = true := mf4_5.out rfl
           obtain rfl : fb2 = true := mf2_4.out rfl
           obtain rfl : fb10 = false := by cases fb10 with | false => rfl | true => exact nomatch (mf7_10.out rfl)
           clear hd
           rw [HF.out]
           obtain rfl := cf4.out rfl
           obtain rfl := cf5.out rfl
           have v_fn := d_fn0.out rfl
           go_simp
           try simp only [sx]
           refine hK.out _ _ ((hI.out _ _ _).2 ⟨true,true,true,fb6,true,fb8,fb9,false,_,_,_,_,_,_,_,_,_,rfl,(HF.out _ _ _ _ _ _ _).symm,S_,trivial,(fun _ => rfl),(fun _ => rfl),(fun _ => rfl),(fun _ => rfl),mf6_9,mf8_9,(fun _ => rfl),(fun h => nomatch h),cf4,cf5,cf6,(fun _ => rfl),(fun h => nomatch h),(fun h => nomatch h),d_fn0,d_nb,d_nb0,d_nb1⟩)
         · obtain ⟨fb2,fb4,fb5,fb6,fb7,fb8,fb9,fb10,x34,x36,x31,x37,x38,x12,x13,E_fn,E_nb,rfl,rfl,S_,_,mf2_4,mf4_5,mf5_6,mf5_7,mf6_9,mf8_9,mf7_10,mf9_10,cf4,cf5,cf6,cf7,cf10,d_fn,d_fn0,d_nb,d_nb0,d_nb1⟩ := (hI.out _ _ _).1 h
           obtain rfl : fb8 = false := hf
           clear h
           obtain rfl : fb9 = false := by cases fb9 with | false => rfl | true => exact nomatch (mf8_9.out rfl)
           obtain rfl : fb10 = false := by cases fb10 with | false => rfl | true => exact nomatch (mf9_10.out rfl)
           clear hd
           rw [HF.out]
           have v_nb := d_nb.out rfl
           obtain rfl := v_nb
           go_simp
           obtain ⟨g2,hg2⟩ : ∃ g,g = W_.heap.size := ⟨_,rfl⟩
           obtain ⟨W2,hW2⟩ : ∃ v,v = W_.alloc (.cells (ckC (0,[])).toArray 91) := ⟨_,rfl⟩
           have S2 := Lib.hid (S_.out.fillAlloc 1 rfl 91 (ckC (0,[])) (o := .cells (ckC (0,[])).toArray 91) rfl hg2)
           rw [← hg2]
           change K _ (W_.alloc (.cells (ckC (0,[])).toArray 91))
           rw [← hW2]
           rw [← hW2] at S2
           clear hW2 hg2
           try simp only [sx]
           refine hK.out _ _ ((hI.out _ _ _).2 ⟨fb2,fb4,fb5,fb6,fb7,true,false,false,_,_,_,_,_,_,_,_,_,rfl,(HF.out _ _ _ _ _ _ _).symm,S2,trivial,mf2_4,mf4_5,mf5_6,mf5_7,(fun h => nomatch h),(fun _ => rfl),(fun h => nomatch h),(fun h => nomatch h),cf4,cf5,cf6,cf7,(fun h => nomatch h),d_fn,d_fn0,(fun h => nomatch h),(fun _ _ => ⟨_,rfl,rfl⟩),(fun h => nomatch h)⟩)
         · obtain ⟨fb2,fb4,fb5,fb6,fb7,fb8,fb9,fb10,x34,x36,x31,x37,x38,x12,x13,E_fn,E_nb,rfl,rfl,S_,_,mf2_4,mf4_5,mf5_6,mf5_7,mf6_9,mf8_9,mf7_10,mf9_10,cf4,cf5,cf6,cf7,cf10,d_fn,d_fn0,d_nb,d_nb0,d_nb1⟩ := (hI.out _ _ _).1 h
           obtain rfl : fb9 = false := hf
           clear h
           obtain rfl : fb2 = true := hd 2 (by decide)
           obtain rfl : fb4 = true := hd 4 (by decide)
           obtain rfl : fb5 = true := hd 5 (by decide)
           obtain rfl : fb6 = true := hd 6 (by decide)
           obtain rfl : fb8 = true := hd 8 (by decide)
           obtain rfl : fb10 = false := by cases fb10 with | false => rfl | true => exact nomatch (mf9_10.out rfl)
           clear hd
           rw [HF.out]
           obtain rfl := cf4.out rfl
           obtain rfl := cf5.out rfl
           obtain rfl := cf6.out rfl
           have v_fn := d_fn0.out rfl
           have v_nb := d_nb0.out rfl rfl
           obtain ⟨g,rfl,rfl⟩ := v_nb
           refine step_ckAt dd HD32.out rfl (.tmp 12) (.tmp 37) rfl S_.out 1 g (0,[]) (by simp) rfl rfl rfl ?_
           intro W2 S2'
           have S2 := Lib.hid S2'
           clear S2'
           try simp only [sx]
           refine hK.out _ _ ((hI.out _ _ _).2 ⟨true,true,true,true,fb7,true,true,false,_,_,_,_,_,_,_,_,_,rfl,(HF.out _ _ _ _ _ _ _).symm,S2,trivial,(fun _ => rfl),(fun _ => rfl),(fun _ => rfl),(fun _ => rfl),(fun _ => rfl),(fun _ => rfl),(fun h => nomatch h),(fun _ => rfl),cf4,cf5,cf6,cf7,(fun h => nomatch h),(fun h => nomatch h),d_fn0,(fun h => nomatch h),(fun _ h => nomatch h),(fun _ => ⟨_,rfl,rfl⟩)⟩)
         · obtain ⟨fb2,fb4,fb5,fb6,fb7,fb8,fb9,fb10,x34,x36,x31,x37,x38,x12,x13,E_fn,E_nb,rfl,rfl,S_,_,mf2_4,mf4_5,mf5_6,mf5_7,mf6_9,mf8_9,mf7_10,mf9_10,cf4,cf5,cf6,cf7,cf10,d_fn,d_fn0,d_nb,d_nb0,d_nb1⟩ := (hI.out _ _ _).1 h
           obtain rfl : fb10 = false := hf
           clear h
           obtain rfl : fb2 = true := hd 2 (by decide)
           obtain rfl : fb4 = true := hd 4 (by decide)
           obtain rfl : fb5 = true := hd 5 (by decide)
           obtain rfl : fb6 = true := hd 6 (by decide)
           obtain rfl : fb7 = true := hd 7 (by decide)
           obtain rfl : fb8 = true := hd 8 (by decide)
           obtain rfl : fb9 = true := hd 9 (by decide)
           clear hd
           rw [HF.out]
           obtain rfl := cf4.out rfl
           obtain rfl := cf5.out rfl
           obtain rfl := cf6.out rfl
           obtain rfl := cf7.out rfl
           have v_fn := d_fn0.out rfl
           have v_nb := d_nb1.out rfl
           go_simp
           try simp only [sx]
           refine hK.out _ _ ((hI.out _ _ _).2 ⟨true,true,true,true,true,true,true,true,_,_,_,_,_,_,_,_,_,rfl,(HF.out _ _ _ _ _ _ _).symm,S_,trivial,(fun _ => rfl),(fun _ => rfl),(fun _ => rfl),(fun _ => rfl),(fun _ => rfl),(fun _ => rfl),(fun _ => rfl),(fun _ => rfl),cf4,cf5,cf6,cf7,(fun _ => rfl),(fun h => nomatch h),d_fn0,(fun h => nomatch h),(fun _ h => nomatch h),d_nb1⟩)
       · refine (hI.out _ _ _).2 ⟨false,false,false,false,false,false,false,false,_,_,_,_,_,_,_,eNo,eNo,rfl,(HF.out _ _ _ _ _ _ _).symm,(S1.out.no.no : Sep w.heap.size w [eNo,eNo,eInts (onL m c k) (.slice A0 (onL m c k).length c0),eInts m.all (.slice (some ⟨ba,oa,none⟩) m.all.length cV),eBlk cb 91 (ckC c),eMc m q,eBlk sb 52 [.int .i64 c.1,.slice AT c.2.length cp],eBlk mb 37 [.slice p.A1 m.a.al.length p.c1,.int .i64 m.a.n,.slice p.A2 m.a.mr.length p.c2,.slice p.A3 m.a.ed.length p.c3,.slice B m.ac.length d,.int .i64 m.tk]] w1),trivial,(fun h => nomatch h),(fun h => nomatch h),(fun h => nomatch h),(fun h => nomatch h),(fun h => nomatch h),(fun h => nomatch h),(fun h => nomatch h),(fun h => nomatch h),(fun h => nomatch h),(fun h => nomatch h),(fun h => nomatch h),(fun h => nomatch h),(fun h => nomatch h),(fun _ => rfl),(fun h => nomatch h),(fun _ => rfl),(fun h => nomatch h),(fun h => nomatch h)⟩
      case rest =>
       clear S ce HEF HD32 HMEM
       obtain ⟨rfl,S⟩ := hcut
       cases bb
       · have E : Hid (onL m c (k + 1) = onL m c k) := onL_no HE.out HBB.out
         go_wp2_with fail
         go_roundw
         case rel => exact ⟨k + 1,A0,c0,by go_num,by rw [E.out],by omega,by have h := S.out; rw [← E.out] at h; exact h⟩
         case measure => simp [intOf]; omega
       · have E : Hid (onL m c (k + 1) = onL m c k ++ [ev]) := onL_yes HE.out HBB.out
         have hln : (onL m c k).length ≤ 33 := by have := HLN.out; omega
         go_wp2_with (at_builtin; refine wpList_pushS rfl _ _ 31 rfl (S.out.alloc 3 [.int .i64 ev]) 1 rfl Tryz.underlying31 _ 8 intInfo rfl (by decide) rfl ev _ rfl rfl (one_cell _ _ [_] _ rfl) (encI_one _) (by omega) (by decide) ?_)
         intro A' c' w6 S6 _
         have S7 : Hid (Sep w.heap.size w [eInts (onL m c (k + 1)) (.slice A' ((onL m c k).length + 1) c'),eInts m.all (.slice (some ⟨ba,oa,none⟩) m.all.length cV),eBlk cb 91 (ckC c),eMc m q,eBlk sb 52 [.int .i64 c.1,.slice AT c.2.length cp],eBlk mb 37 [.slice p.A1 m.a.al.length p.c1,.int .i64 m.a.n,.slice p.A2 m.a.mr.length p.c2,.slice p.A3 m.a.ed.length p.c3,.slice B m.ac.length d,.int .i64 m.tk]] w6) := by rw [E.out]; exact S6.drop1
         have HN : Hid ((onL m c k).length + 1 = (onL m c (k + 1)).length) := by rw [E.out,List.length_append]; rfl
         clear S6 S hln
         go_wp2_with fail
         go_roundw
         case rel => exact ⟨k + 1,A',c',by go_num,by rw [HN.out],by omega,by have h := S7.out; rw [HN.out] at h; exact h⟩
         case measure => simp [intOf]; omega
    · obtain rfl : k = m.all.length := by omega
      go_wp2_with fail
      go_ret2
      have e1 : enP m c = onL m c m.all.length := by unfold enP; rw [if_pos HST.out]
      rw [e1,HST.out]
      exact ⟨A0,c0,rfl,S.out.first⟩
set_option maxHeartbeats 4000000 in
theorem stepP_c (m : Md) (P : MdP) (c : Ck) (e : Int) (AT : Option Addr) (cp : Nat) (w : World) (hm : m.Ok) (hA : Md.At w m P) (hT : IntsAt w AT c.2) (hcap : m.a.al.length ≤ P.p.c1) :
 Calls Tryz.prog 17 #[.agg (m.cells P).toArray,.agg #[.int .i64 c.1,.slice AT c.2.length cp],.int .i64 e] w (GivesSE (spP m c e) w) := by
 have hall := all_len hm
 have EV : Hid (∀ W : World,Md.At W m P → Calls Tryz.prog 39 #[.agg (m.cells P).toArray] W (GivesMg m.all W)) := fun W h => events_c m P W hm h hcap
 have MA : Hid (∀ e,e ∈ m.all → e = m.tk ∨ e ∈ m.a.al) := fun e h => (mem_all.1 h).symm
 clear hcap
 have h32 := hm.len32
 have HM := Lib.hid hm
 have HA := Lib.hid hA
 have HT := Lib.hid hT
 obtain ⟨p,B,d⟩ := P
 clear hm hA hT
 go_enter Tryz.func17,Tryz.ntmps17
 obtain ⟨mb,hmb⟩ : ∃ g,g = w.heap.size := ⟨_,rfl⟩
 obtain ⟨sb,hsb⟩ : ∃ g,g = w.heap.size + 1 := ⟨_,rfl⟩
 obtain ⟨rb,hrb⟩ : ∃ g,g = w.heap.size + 1 + 1 := ⟨_,rfl⟩
 go_upto_region 1 with fail
 rw [← hrb,← hsb,← hmb]
 refine wp_world (fun W => Sep w.heap.size w [eBlk rb 52 [.int .i64 0,.slice none 0 0],eBlk sb 52 [.int .i64 c.1,.slice AT c.2.length cp],eBlk mb 37 [.slice p.A1 m.a.al.length p.c1,.int .i64 m.a.n,.slice p.A2 m.a.mr.length p.c2,.slice p.A3 m.a.ed.length p.c3,.slice B m.ac.length d,.int .i64 m.tk]] W) ((((Sep.here w).alloc' _ [_,_,_,_,_,_] rfl hmb).alloc' _ [_,_] rfl (by rw [hsb]; simp)).alloc' _ [_,_] rfl (by rw [hrb]; simp)) fun W S => ?_
 have S0 := Lib.hid S
 clear S hmb hsb hrb
 have b0 := BlkAt.cell (S0.out.get 2 rfl) 0; have b1 := BlkAt.cell (S0.out.get 2 rfl) 1; have b2 := BlkAt.cell (S0.out.get 2 rfl) 2; have b3 := BlkAt.cell (S0.out.get 2 rfl) 3; have b4 := BlkAt.cell (S0.out.get 2 rfl) 4; have b5 := BlkAt.cell (S0.out.get 2 rfl) 5; simp only [List.getElem?_cons_succ,List.getElem?_cons_zero] at b0 b1 b2 b3 b4 b5
 have s0 := BlkAt.cell (S0.out.get 1 rfl) 0; have s1 := BlkAt.cell (S0.out.get 1 rfl) 1; simp only [List.getElem?_cons_succ,List.getElem?_cons_zero] at s0 s1
 have BG := begin_c m ⟨p,B,d⟩ c AT cp W HM.out (HA.out.below S0.out.below) (HT.out.below IntE.stays S0.out.below)
 dsimp only [Md.cells] at BG
 have BG2 := Lib.hid BG
 clear BG
 go_wp2_with fail
 refine BG2.out.mono ?_
 intro e1 w1 hbg
 clear BG2 b0 b1 b2 b3 b4 b5 s0 s1
 rcases hbg with ⟨r,rfl,hr,hr0,hb⟩ | ⟨q,rfl,h0,hqP,hqB,T⟩
 · have S1 := Lib.hid (S0.out.next hb)
   have HR := Lib.hid hr
   have hne : (r != 0) = true := by simpa using hr0
   clear hr hr0 hb S0
   obtain ⟨cb,hcb⟩ : ∃ g,g = w1.heap.size := ⟨_,rfl⟩
   have ES : Hid (spP m c e = (none,r)) := by
    rw [Hid]; unfold spP
    rw [if_neg,← HR.out]
    rw [← HR.out]; simpa using hne
   go_upto_region 2 with (refine wpList_ckNew (0,[]) (by simp) rfl _ _ rfl _ rfl rfl (by kernel_rfl) ?_)
   rw [← hcb]
   refine wp_world (fun V => Hid (Sep w.heap.size w [eBlk cb 91 (ckC (0,[])),eBlk rb 52 [.int .i64 0,.slice none 0 0],eBlk sb 52 [.int .i64 c.1,.slice AT c.2.length cp],eBlk mb 37 [.slice p.A1 m.a.al.length p.c1,.int .i64 m.a.n,.slice p.A2 m.a.mr.length p.c2,.slice p.A3 m.a.ed.length p.c3,.slice B m.ac.length d,.int .i64 m.tk]] V)) (S1.out.alloc' _ (ckC (0,[])) rfl hcb) fun W3 S => ?_
   have S3 := Lib.hid S.out
   clear S S1 hcb
   have r0 := BlkAt.cell (S3.out.get 1 rfl) 0
   have r1 := BlkAt.cell (S3.out.get 1 rfl) 1
   have f0 := BlkAt.free (S3.out.get 1 rfl) 0
   have f1 := BlkAt.free (S3.out.get 1 rfl) 1
   have S30 := Lib.hid ((S3.out.set 1 rfl 0 (.int .i64 0)).set 1 rfl 1 (.slice none 0 0))
   have g0 := BlkAt.cell (S30.out.get 1 rfl) 0
   have g1 := BlkAt.cell (S30.out.get 1 rfl) 1
   simp only [List.set_cons_succ,List.set_cons_zero,List.getElem?_cons_succ,List.getElem?_cons_zero] at r0 r1 g0 g1
   clear S3
   go_wp2_with fail
   refine bodyPost_ret (v := .tuple #[.agg #[.int .i64 0,.slice none 0 0],.bool false,.int .i64 r]) (by simp [results,Tryz.results17,go_sem, *]) rfl ?_
   rw [ES.out]
   exact GivesSE.no S30.out.below
 · have S1 := Lib.hid (S0.out.news T.out)
   have HST := Lib.hid h0
   have HQP := Lib.hid hqP
   have HQB := Lib.hid hqB
   have HQ : Hid (∀ V,Below w.heap.size w V → (eMc m q).ok V → Mch V m q) := fun V hb he => Mch.of he (by rw [HQP.out]; exact HA.out.below hb) HQB.out
   have HC : Hid (m.Is c) := stE_is HM.out h0
   have hc32 : c.2.length ≤ 32 := by rw [HC.out.len]; exact h32
   clear h0 hqP hqB T S0
   simp only [List.append_eq,List.nil_append,List.cons_append] at S1
   obtain ⟨cb,hcb⟩ : ∃ g,g = w1.heap.size := ⟨_,rfl⟩
   go_upto_region 2 with (refine wpList_ckNew c hc32 rfl _ _ rfl _ rfl rfl (by kernel_rfl) ?_)
   rw [← hcb]
   refine wp_world (fun V => Hid (Sep w.heap.size w [eBlk cb 91 (ckC c),eMc m q,eBlk rb 52 [.int .i64 0,.slice none 0 0],eBlk sb 52 [.int .i64 c.1,.slice AT c.2.length cp],eBlk mb 37 [.slice p.A1 m.a.al.length p.c1,.int .i64 m.a.n,.slice p.A2 m.a.mr.length p.c2,.slice p.A3 m.a.ed.length p.c3,.slice B m.ac.length d,.int .i64 m.tk]] V)) (S1.out.alloc' _ (ckC c) rfl hcb) fun W3 S => ?_
   have S3 := Lib.hid S.out
   clear S S1 hcb
   have b0 := BlkAt.cell (S3.out.get 4 rfl) 0; have b1 := BlkAt.cell (S3.out.get 4 rfl) 1; have b2 := BlkAt.cell (S3.out.get 4 rfl) 2; have b3 := BlkAt.cell (S3.out.get 4 rfl) 3; have b4 := BlkAt.cell (S3.out.get 4 rfl) 4; have b5 := BlkAt.cell (S3.out.get 4 rfl) 5; simp only [List.getElem?_cons_succ,List.getElem?_cons_zero] at b0 b1 b2 b3 b4 b5
   have EV2 := EV.out W3 (HA.out.below S3.out.below)
   dsimp only [Md.cells] at EV2
   have EV3 := Lib.hid EV2
   clear EV2
   go_wp2_with fail
   refine EV3.out.mono ?_
   rintro e4 w4 ⟨AV,cV,rfl,ho,hb⟩
   have S4 : Hid (Sep w.heap.size w [eInts m.all (.slice AV m.all.length cV),eBlk cb 91 (ckC c),eMc m q,eBlk rb 52 [.int .i64 0,.slice none 0 0],eBlk sb 52 [.int .i64 c.1,.slice AT c.2.length cp],eBlk mb 37 [.slice p.A1 m.a.al.length p.c1,.int .i64 m.a.n,.slice p.A2 m.a.mr.length p.c2,.slice p.A3 m.a.ed.length p.c3,.slice B m.ac.length d,.int .i64 m.tk]] w4) := S3.out.newI ho hb
   have CC := Lib.hid (containsV_c AV cV m.all e w4 (S4.out.ints 0 rfl) (by omega))
   clear EV3 EV ho hb S3 b0 b1 b2 b3 b4 b5
   by_cases hmem : e ∈ m.all
   · have HMEM : Hid (e = m.tk ∨ e ∈ m.a.al) := MA.out _ hmem
     have HIN := Lib.hid hmem
     clear hmem
     go_wp2_with fail
     refine CC.out.mono ?_
     intro e8 w8 hs
     obtain ⟨rfl,rfl⟩ := hs.yes3 HIN.out
     have S8 := S4
     clear S4 CC hs
     obtain ⟨r,hr⟩ : ∃ r,r = m.eff e c := ⟨_,rfl⟩
     obtain ⟨dd,hdd⟩ : ∃ d,d = r.getD (0,[]) := ⟨_,rfl⟩
     obtain ⟨bb,hbb⟩ : ∃ b,b = r.isSome := ⟨_,rfl⟩
     have HEF : Hid (ckV (m.eff e c) = .tuple #[.agg (ckC dd).toArray,.bool bb]) := by rw [Hid,← hr,hdd,hbb]; rfl
     have HD32 : Hid (dd.2.length ≤ 32) := by
      rw [Hid,hdd]
      cases r with
      | none => simp
      | some t => show t.2.length ≤ 32; rw [(Md.Is.eff HM.out HC.out hr.symm).len]; exact h32
     have ES : Hid (spP m c e = (r,0)) := by
      rw [Hid]; unfold spP
      rw [if_pos HST.out,if_pos HIN.out,hr]
     have HIS : Hid (bb = true → r = some dd ∧ m.Is dd) := fun h => by
      cases r with
      | none => rw [hbb] at h; cases h
      | some t =>
        obtain rfl : dd = t := hdd
        exact ⟨rfl,Md.Is.eff HM.out HC.out hr.symm⟩
     have HNO : Hid (bb = false → r = none) := fun h => by
      cases r with
      | none => rfl
      | some t => rw [hbb] at h; cases h
     obtain ⟨ev,hev⟩ : ∃ v,v = e := ⟨_,rfl⟩
     rw [← hev] at HMEM HEF ⊢
     have HEV := Lib.hid hev
     clear hr hdd hbb hev
     go_upto_region 6 with fail
     go_cut [11,12] (fun u v wx => ∃ nb : Nat,u = .pointer (some ⟨nb,0,none⟩) ∧ v = .bool bb ∧ Hid (Sep w.heap.size w [eBlk nb 91 (ckC dd),eBlk cb 91 (ckC c),eMc m q,eBlk rb 52 [.int .i64 0,.slice none 0 0],eBlk sb 52 [.int .i64 c.1,.slice AT c.2.length cp],eBlk mb 37 [.slice p.A1 m.a.al.length p.c1,.int .i64 m.a.n,.slice p.A2 m.a.mr.length p.c2,.slice p.A3 m.a.ed.length p.c3,.slice B m.ac.length d,.int .i64 m.tk]] wx))
     case first =>
      have S2 := Lib.hid S8.out.drew
      refine wp_region_held_drew (S := (fun V => Sep w.heap.size w [eBlk cb 91 (ckC c)] V)) (by kernel_rfl) ?_ (fun hHeld => ?_)
      · exact S2.out.pick [1] (by decide)
      generalize hwz : w4.drew = w2 at *
      clear hwz
      rw [show Array.replicate _ false = #[false,false,false,false,false,false,false,false,false,false,false] from rfl]
      refine tkP 0 rfl hHeld ?_
      try simp only [sx]
      refine tkP 1 rfl hHeld ?_
      try simp only [sx]
      refine wpAnyH_take (i := 3) (v := _) rfl (by kernel_rfl) (by kernel_rfl) (by kernel_rfl) (fun _ _ _ h => h) (yieldsIf_load_mid (by kernel_rfl) 91 (.tmp 10) rfl cb 0 rfl (ckC c) _ (fun V hSw => range_of (Sep.get (show Sep w.heap.size w _ V from hSw) 0 rfl)) Tryz.underlying91 rfl (by rw [ck_info,ckC_len hc32])) hHeld ?_
      try simp only [sx]
      refine act_name ?_
      intro A0 hA0
      obtain ⟨F,hF⟩ : ∃ F : Value → Value → Value → Value → Value → Value → Value → Act,Hid (∀ x33 x35 x30 x36 x37 x11 x12,F x33 x35 x30 x36 x37 x11 x12 = (((((((A0.put (some 33) x33).put (some 35) x35).put (some 30) x30).put (some 36) x36).put (some 37) x37).put (some 11) x11).put (some 12) x12)) := ⟨fun x33 x35 x30 x36 x37 x11 x12 => (((((((A0.put (some 33) x33).put (some 35) x35).put (some 30) x30).put (some 36) x36).put (some 37) x37).put (some 11) x11).put (some 12) x12),fun _ _ _ _ _ _ _ => rfl⟩
      subst hA0
      unfold Hid at hF
      simp only [List.getElem_toArray,List.getElem_cons_zero,List.getElem_cons_succ,Act.put,List.setIfInBounds_toArray,List.set_cons_zero,List.set_cons_succ] at hF
      have HF := Lib.hid hF
      clear hF
      obtain ⟨INV,hI⟩ : ∃ I : Array Bool → Act → World → Prop,Hid (∀ l_ a_ W_,I l_ a_ W_ ↔ ∃ (fb2 fb4 fb5 fb6 fb7 fb8 fb9 fb10 : Bool) (x33 x35 x30 x36 x37 x11 x12 : Value) (E_fn E_nb : Ent),l_ = #[true,true,fb2,true,fb4,fb5,fb6,fb7,fb8,fb9,fb10] ∧ a_ = F x33 x35 x30 x36 x37 x11 x12 ∧ Hid (Sep w.heap.size w [E_fn,E_nb,eInts m.all (.slice AV m.all.length cV),eBlk cb 91 (ckC c),eMc m q,eBlk rb 52 [.int .i64 0,.slice none 0 0],eBlk sb 52 [.int .i64 c.1,.slice AT c.2.length cp],eBlk mb 37 [.slice p.A1 m.a.al.length p.c1,.int .i64 m.a.n,.slice p.A2 m.a.mr.length p.c2,.slice p.A3 m.a.ed.length p.c3,.slice B m.ac.length d,.int .i64 m.tk]] W_) ∧ True ∧ Hid (fb4 = true → fb2 = true) ∧ Hid (fb5 = true → fb4 = true) ∧ Hid (fb6 = true → fb5 = true) ∧ Hid (fb7 = true → fb5 = true) ∧ Hid (fb9 = true → fb6 = true) ∧ Hid (fb9 = true → fb8 = true) ∧ Hid (fb10 = true → fb7 = true) ∧ Hid (fb10 = true → fb9 = true) ∧ Hid (fb4 = true → x35 = .tuple #[.agg (ckC dd).toArray,.bool bb]) ∧ Hid (fb5 = true → x30 = .tuple #[.agg (ckC dd).toArray,.bool bb]) ∧ Hid (fb6 = true → x36 = .agg (ckC dd).toArray) ∧ Hid (fb7 = true → x37 = .bool bb) ∧ Hid (fb10 = true → x12 = .bool bb) ∧ Hid (fb2 = false → E_fn = eNo) ∧ Hid (fb2 = true → E_fn = eEff m q ev x33) ∧ Hid (fb8 = false → E_nb = eNo) ∧ Hid (fb8 = true → fb9 = false → ∃ g,x11 = .pointer (some ⟨g,0,none⟩) ∧ E_nb = eBlk g 91 (ckC (0,[]))) ∧ Hid (fb9 = true → ∃ g,x11 = .pointer (some ⟨g,0,none⟩) ∧ E_nb = eBlk g 91 (ckC dd))) := ⟨_,fun _ _ _ => Iff.rfl⟩
      refine wpAnyH_inv (INV := INV) (D := [[],[],[0,1],[],[2,3],[4],[5],[5],[],[0,1,2,3,4,5,6,8],[0,1,2,3,4,5,6,7,8,9]]) [2,4,5,6,7,8,9,10] (by kernel_rfl) (fun l_ a_ W_ h => ?_) (fun l_ a_ W_ h => ?_) (fun l_ a_ W_ h hall => ?_) ?_ _ _ _ _ (by decide) ?_
      · obtain ⟨fb2,fb4,fb5,fb6,fb7,fb8,fb9,fb10,x33,x35,x30,x36,x37,x11,x12,E_fn,E_nb,rfl,rfl,S_,_,mf2_4,mf4_5,mf5_6,mf5_7,mf6_9,mf8_9,mf7_10,mf9_10,cf4,cf5,cf6,cf7,cf10,d_fn,d_fn0,d_nb,d_nb0,d_nb1⟩ := (hI.out _ _ _).1 h
        exact S_.out.pick [3] (by decide)
      · obtain ⟨fb2,fb4,fb5,fb6,fb7,fb8,fb9,fb10,x33,x35,x30,x36,x37,x11,x12,E_fn,E_nb,rfl,rfl,S_,_,mf2_4,mf4_5,mf5_6,mf5_7,mf6_9,mf8_9,mf7_10,mf9_10,cf4,cf5,cf6,cf7,cf10,d_fn,d_fn0,d_nb,d_nb0,d_nb1⟩ := (hI.out _ _ _).1 h
        rfl
      · obtain ⟨fb2,fb4,fb5,fb6,fb7,fb8,fb9,fb10,x33,x35,x30,x36,x37,x11,x12,E_fn,E_nb,rfl,rfl,S_,_,mf2_4,mf4_5,mf5_6,mf5_7,mf6_9,mf8_9,mf7_10,mf9_10,cf4,cf5,cf6,cf7,cf10,d_fn,d_fn0,d_nb,d_nb0,d_nb1⟩ := (hI.out _ _ _).1 h
        obtain rfl : fb2 = true := hall 2 (by decide)
        obtain rfl : fb4 = true := hall 4 (by decide)
        obtain rfl : fb5 = true := hall 5 (by decide)
        obtain rfl : fb6 = true := hall 6 (by decide)
        obtain rfl : fb7 = true := hall 7 (by decide)
        obtain rfl : fb8 = true := hall 8 (by decide)
        obtain rfl : fb9 = true := hall 9 (by decide)
        obtain rfl : fb10 = true := hall 10 (by decide)
        clear hall h hI INV
        rw [HF.out]
        clear HF F
        obtain rfl := cf4.out rfl
        obtain rfl := cf5.out rfl
        obtain rfl := cf6.out rfl
        obtain rfl := cf7.out rfl
        obtain rfl := cf10.out rfl
        have v_fn := d_fn0.out rfl
        have v_nb := d_nb1.out rfl
        clear mf2_4 mf4_5 mf5_6 mf5_7 mf6_9 mf8_9 mf7_10 mf9_10 cf4 cf5 cf6 cf7 cf10 d_fn d_fn0 d_nb d_nb0 d_nb1
        obtain ⟨g,rfl,rfl⟩ := v_nb
        have S9 := S_
        go_wp2_with fail
        go_meet
        exact ⟨g,rfl,rfl,S9.out.pick [1,3,4,5,6,7] (by decide)⟩
      · clear hHeld S2
        refine StepsI.cons rfl (fun l_ a_ W_ h hf hd K hK => ?_) (StepsI.cons rfl (fun l_ a_ W_ h hf hd K hK => ?_) (StepsI.cons rfl (fun l_ a_ W_ h hf hd K hK => ?_) (StepsI.cons rfl (fun l_ a_ W_ h hf hd K hK => ?_) (StepsI.cons rfl (fun l_ a_ W_ h hf hd K hK => ?_) (StepsI.cons rfl (fun l_ a_ W_ h hf hd K hK => ?_) (StepsI.cons rfl (fun l_ a_ W_ h hf hd K hK => ?_) (StepsI.cons rfl (fun l_ a_ W_ h hf hd K hK => ?_) (StepsI.nil))))))))
        · obtain ⟨fb2,fb4,fb5,fb6,fb7,fb8,fb9,fb10,x33,x35,x30,x36,x37,x11,x12,E_fn,E_nb,rfl,rfl,S_,_,mf2_4,mf4_5,mf5_6,mf5_7,mf6_9,mf8_9,mf7_10,mf9_10,cf4,cf5,cf6,cf7,cf10,d_fn,d_fn0,d_nb,d_nb0,d_nb1⟩ := (hI.out _ _ _).1 h
          obtain rfl : fb2 = false := hf
          clear h
          obtain rfl : fb4 = false := by cases fb4 with | false => rfl | true => exact nomatch (mf2_4.out rfl)
          obtain rfl : fb5 = false := by cases fb5 with | false => rfl | true => exact nomatch (mf4_5.out rfl)
          obtain rfl : fb6 = false := by cases fb6 with | false => rfl | true => exact nomatch (mf5_6.out rfl)
          obtain rfl : fb7 = false := by cases fb7 with | false => rfl | true => exact nomatch (mf5_7.out rfl)
          obtain rfl : fb9 = false := by cases fb9 with | false => rfl | true => exact nomatch (mf6_9.out rfl)
          obtain rfl : fb10 = false := by cases fb10 with | false => rfl | true => exact nomatch (mf7_10.out rfl)
          clear hd
          rw [HF.out]
          have v_fn := d_fn.out rfl
          obtain rfl := v_fn
          go_simp
          refine (effect_c m q ev W_ HM.out (HQ.out W_ S_.out.below (S_.out.get 4 rfl)) HMEM.out).mono ?_
          rintro e_ W2 ⟨fv,rfl,T⟩
          have S2 := Lib.hid (S_.out.fill1 0 rfl T.out)
          clear T
          try simp only [sx]
          refine hK.out _ _ ((hI.out _ _ _).2 ⟨true,false,false,false,false,fb8,false,false,_,_,_,_,_,_,_,_,_,rfl,(HF.out _ _ _ _ _ _ _).symm,S2,trivial,(fun _ => rfl),(fun h => nomatch h),(fun h => nomatch h),(fun h => nomatch h),(fun h => nomatch h),(fun h => nomatch h),(fun h => nomatch h),(fun h => nomatch h),(fun h => nomatch h),(fun h => nomatch h),(fun h => nomatch h),(fun h => nomatch h),(fun h => nomatch h),(fun h => nomatch h),(fun _ => rfl),d_nb,d_nb0,(fun h => nomatch h)⟩)
        · obtain ⟨fb2,fb4,fb5,fb6,fb7,fb8,fb9,fb10,x33,x35,x30,x36,x37,x11,x12,E_fn,E_nb,rfl,rfl,S_,_,mf2_4,mf4_5,mf5_6,mf5_7,mf6_9,mf8_9,mf7_10,mf9_10,cf4,cf5,cf6,cf7,cf10,d_fn,d_fn0,d_nb,d_nb0,d_nb1⟩ := (hI.out _ _ _).1 h
          obtain rfl : fb4 = false := hf
          clear h
          obtain rfl : fb2 = true := hd 2 (by decide)
          obtain rfl : fb5 = false := by cases fb5 with | false => rfl | true => exact nomatch (mf4_5.out rfl)
          obtain rfl : fb6 = false := by cases fb6 with | false => rfl | true => exact nomatch (mf5_6.out rfl)
          obtain rfl : fb7 = false := by cases fb7 with | false => rfl | true => exact nomatch (mf5_7.out rfl)
          obtain rfl : fb9 = false := by cases fb9 with | false => rfl | true => exact nomatch (mf6_9.out rfl)
          obtain rfl : fb10 = false := by cases fb10 with | false => rfl | true => exact nomatch (mf7_10.out rfl)
          clear hd
          rw [HF.out]
          have v_fn := d_fn0.out rfl
          obtain rfl := v_fn
          obtain ⟨F,pre,post,hfv,ec,HCA⟩ := EffOk.call (S_.out.get 0 rfl) HM.out (HQ.out W_ S_.out.below (S_.out.get 4 rfl)) c HC.out
          rw [HEF.out] at HCA
          subst hfv
          go_simp
          refine HCA.mono ?_
          rintro e_ W2 ⟨rfl,hb⟩
          have S2 := Lib.hid (S_.out.next hb)
          clear hb HCA
          try simp only [sx]
          refine hK.out _ _ ((hI.out _ _ _).2 ⟨true,true,false,false,false,fb8,false,false,_,_,_,_,_,_,_,_,_,rfl,(HF.out _ _ _ _ _ _ _).symm,S2,trivial,(fun _ => rfl),(fun _ => rfl),(fun h => nomatch h),(fun h => nomatch h),(fun h => nomatch h),(fun h => nomatch h),(fun h => nomatch h),(fun h => nomatch h),(fun _ => rfl),(fun h => nomatch h),(fun h => nomatch h),(fun h => nomatch h),(fun h => nomatch h),(fun h => nomatch h),d_fn0,d_nb,d_nb0,(fun h => nomatch h)⟩)
        · obtain ⟨fb2,fb4,fb5,fb6,fb7,fb8,fb9,fb10,x33,x35,x30,x36,x37,x11,x12,E_fn,E_nb,rfl,rfl,S_,_,mf2_4,mf4_5,mf5_6,mf5_7,mf6_9,mf8_9,mf7_10,mf9_10,cf4,cf5,cf6,cf7,cf10,d_fn,d_fn0,d_nb,d_nb0,d_nb1⟩ := (hI.out _ _ _).1 h
          obtain rfl : fb5 = false := hf
          clear h
          obtain rfl : fb4 = true := hd 4 (by decide)
          obtain rfl : fb2 = true := mf2_4.out rfl
          obtain rfl : fb6 = false := by cases fb6 with | false => rfl | true => exact nomatch (mf5_6.out rfl)
          obtain rfl : fb7 = false := by cases fb7 with | false => rfl | true => exact nomatch (mf5_7.out rfl)
          obtain rfl : fb9 = false := by cases fb9 with | false => rfl | true => exact nomatch (mf6_9.out rfl)
          obtain rfl : fb10 = false := by cases fb10 with | false => rfl | true => exact nomatch (mf7_10.out rfl)
          clear hd
          rw [HF.out]
          obtain rfl := cf4.out rfl
          have v_fn := d_fn0.out rfl
          go_simp
          try simp only [sx]
          refine hK.out _ _ ((hI.out _ _ _).2 ⟨true,true,true,false,false,fb8,false,false,_,_,_,_,_,_,_,_,_,rfl,(HF.out _ _ _ _ _ _ _).symm,S_,trivial,(fun _ => rfl),(fun _ => rfl),(fun _ => rfl),(fun _ => rfl),(fun h => nomatch h),(fun h => nomatch h),(fun h => nomatch h),(fun h => nomatch h),cf4,(fun _ => rfl),(fun h => nomatch h),(fun h => nomatch h),(fun h => nomatch h),(fun h => nomatch h),d_fn0,d_nb,d_nb0,(fun h => nomatch h)⟩)
        · obtain ⟨fb2,fb4,fb5,fb6,fb7,fb8,fb9,fb10,x33,x35,x30,x36,x37,x11,x12,E_fn,E_nb,rfl,rfl,S_,_,mf2_4,mf4_5,mf5_6,mf5_7,mf6_9,mf8_9,mf7_10,mf9_10,cf4,cf5,cf6,cf7,cf10,d_fn,d_fn0,d_nb,d_nb0,d_nb1⟩ := (hI.out _ _ _).1 h
          obtain rfl : fb6 = false := hf
          clear h
          obtain rfl : fb5 = true := hd 5 (by decide)
          obtain rfl : fb4 = true := mf4_5.out rfl
          obtain rfl : fb2 = true := mf2_4.out rfl
          obtain rfl : fb9 = false := by cases fb9 with | false => rfl | true => exact nomatch (mf6_9.out rfl)
          obtain rfl : fb10 = false := by cases fb10 with | false => rfl | true => exact nomatch (mf9_10.out rfl)
          clear hd
          rw [HF.out]
          obtain rfl := cf4.out rfl
          obtain rfl := cf5.out rfl
          have v_fn := d_fn0.out rfl
          go_simp
          try simp only [sx]
          refine hK.out _ _ ((hI.out _ _ _).2 ⟨true,true,true,true,fb7,fb8,false,false,_,_,_,_,_,_,_,_,_,rfl,(HF.out _ _ _ _ _ _ _).symm,S_,trivial,(fun _ => rfl),(fun _ => rfl),(fun _ => rfl),(fun _ => rfl),(fun _ => rfl),(fun h => nomatch h),(fun h => nomatch h),(fun h => nomatch h),cf4,cf5,(fun _ => rfl),cf7,(fun h => nomatch h),(fun h => nomatch h),d_fn0,d_nb,d_nb0,(fun h => nomatch h)⟩)
        · obtain ⟨fb2,fb4,fb5,fb6,fb7,fb8,fb9,fb10,x33,x35,x30,x36,x37,x11,x12,E_fn,E_nb,rfl,rfl,S_,_,mf2_4,mf4_5,mf5_6,mf5_7,mf6_9,mf8_9,mf7_10,mf9_10,cf4,cf5,cf6,cf7,cf10,d_fn,d_fn0,d_nb,d_nb0,d_nb1⟩ := (hI.out _ _ _).1 h
          obtain rfl : fb7 = false := hf
          clear h
          obtain rfl : fb5 = true := hd 5 (by decide)
          obtain rfl : fb4 = true := mf4_5.out rfl
          obtain rfl : fb2 = true := mf2_4.out rfl
          obtain rfl : fb10 = false := by cases fb10 with | false => rfl | true => exact nomatch (mf7_10.out rfl)
          clear hd
          rw [HF.out]
          obtain rfl := cf4.out rfl
          obtain rfl := cf5.out rfl
          have v_fn := d_fn0.out rfl
          go_simp
          try simp only [sx]
          refine hK.out _ _ ((hI.out _ _ _).2 ⟨true,true,true,fb6,true,fb8,fb9,false,_,_,_,_,_,_,_,_,_,rfl,(HF.out _ _ _ _ _ _ _).symm,S_,trivial,(fun _ => rfl),(fun _ => rfl),(fun _ => rfl),(fun _ => rfl),mf6_9,mf8_9,(fun _ => rfl),(fun h => nomatch h),cf4,cf5,cf6,(fun _ => rfl),(fun h => nomatch h),(fun h => nomatch h),d_fn0,d_nb,d_nb0,d_nb1⟩)
        · obtain ⟨fb2,fb4,fb5,fb6,fb7,fb8,fb9,fb10,x33,x35,x30,x36,x37,x11,x12,E_fn,E_nb,rfl,rfl,S_,_,mf2_4,mf4_5,mf5_6,mf5_7,mf6_9,mf8_9,mf7_10,mf9_10,cf4,cf5,cf6,cf7,cf10,d_fn,d_fn0,d_nb,d_nb0,d_nb1⟩ := (hI.out _ _ _).1 h
          obtain rfl : fb8 = false := hf
          clear h
          obtain rfl : fb9 = false := by cases fb9 with | false => rfl | true => exact nomatch (mf8_9.out rfl)
          obtain rfl : fb10 = false := by cases fb10 with | false => rfl | true => exact nomatch (mf9_10.out rfl)
          clear hd
          rw [HF.out]
          have v_nb := d_nb.out rfl
          obtain rfl := v_nb
          go_simp
          obtain ⟨g2,hg2⟩ : ∃ g,g = W_.heap.size := ⟨_,rfl⟩
          obtain ⟨W2,hW2⟩ : ∃ v,v = W_.alloc (.cells (ckC (0,[])).toArray 91) := ⟨_,rfl⟩
          have S2 := Lib.hid (S_.out.fillAlloc 1 rfl 91 (ckC (0,[])) (o := .cells (ckC (0,[])).toArray 91) rfl hg2)
          rw [← hg2]
          change K _ (W_.alloc (.cells (ckC (0,[])).toArray 91))
          rw [← hW2]
          rw [← hW2] at S2
          clear hW2 hg2
          try simp only [sx]
          refine hK.out _ _ ((hI.out _ _ _).2 ⟨fb2,fb4,fb5,fb6,fb7,true,false,false,_,_,_,_,_,_,_,_,_,rfl,(HF.out _ _ _ _ _ _ _).symm,S2,trivial,mf2_4,mf4_5,mf5_6,mf5_7,(fun h => nomatch h),(fun _ => rfl),(fun h => nomatch h),(fun h => nomatch h),cf4,cf5,cf6,cf7,(fun h => nomatch h),d_fn,d_fn0,(fun h => nomatch h),(fun _ _ => ⟨_,rfl,rfl⟩),(fun h => nomatch h)⟩)
        · obtain ⟨fb2,fb4,fb5,fb6,fb7,fb8,fb9,fb10,x33,x35,x30,x36,x37,x11,x12,E_fn,E_nb,rfl,rfl,S_,_,mf2_4,mf4_5,mf5_6,mf5_7,mf6_9,mf8_9,mf7_10,mf9_10,cf4,cf5,cf6,cf7,cf10,d_fn,d_fn0,d_nb,d_nb0,d_nb1⟩ := (hI.out _ _ _).1 h
          obtain rfl : fb9 = false := hf
          clear h
          obtain rfl : fb2 = true := hd 2 (by decide)
          obtain rfl : fb4 = true := hd 4 (by decide)
          obtain rfl : fb5 = true := hd 5 (by decide)
          obtain rfl : fb6 = true := hd 6 (by decide)
          obtain rfl : fb8 = true := hd 8 (by decide)
          obtain rfl : fb10 = false := by cases fb10 with | false => rfl | true => exact nomatch (mf9_10.out rfl)
          clear hd
          rw [HF.out]
          obtain rfl := cf4.out rfl
          obtain rfl := cf5.out rfl
          obtain rfl := cf6.out rfl
          have v_fn := d_fn0.out rfl
          have v_nb := d_nb0.out rfl rfl
          obtain ⟨g,rfl,rfl⟩ := v_nb
          refine step_ckAt dd HD32.out rfl (.tmp 11) (.tmp 36) rfl S_.out 1 g (0,[]) (by simp) rfl rfl rfl ?_
          intro W2 S2'
          have S2 := Lib.hid S2'
          clear S2'
          try simp only [sx]
          refine hK.out _ _ ((hI.out _ _ _).2 ⟨true,true,true,true,fb7,true,true,false,_,_,_,_,_,_,_,_,_,rfl,(HF.out _ _ _ _ _ _ _).symm,S2,trivial,(fun _ => rfl),(fun _ => rfl),(fun _ => rfl),(fun _ => rfl),(fun _ => rfl),(fun _ => rfl),(fun h => nomatch h),(fun _ => rfl),cf4,cf5,cf6,cf7,(fun h => nomatch h),(fun h => nomatch h),d_fn0,(fun h => nomatch h),(fun _ h => nomatch h),(fun _ => ⟨_,rfl,rfl⟩)⟩)
        · obtain ⟨fb2,fb4,fb5,fb6,fb7,fb8,fb9,fb10,x33,x35,x30,x36,x37,x11,x12,E_fn,E_nb,rfl,rfl,S_,_,mf2_4,mf4_5,mf5_6,mf5_7,mf6_9,mf8_9,mf7_10,mf9_10,cf4,cf5,cf6,cf7,cf10,d_fn,d_fn0,d_nb,d_nb0,d_nb1⟩ := (hI.out _ _ _).1 h
          obtain rfl : fb10 = false := hf
          clear h
          obtain rfl : fb2 = true := hd 2 (by decide)
          obtain rfl : fb4 = true := hd 4 (by decide)
          obtain rfl : fb5 = true := hd 5 (by decide)
          obtain rfl : fb6 = true := hd 6 (by decide)
          obtain rfl : fb7 = true := hd 7 (by decide)
          obtain rfl : fb8 = true := hd 8 (by decide)
          obtain rfl : fb9 = true := hd 9 (by decide)
          clear hd
          rw [HF.out]
          obtain rfl := cf4.out rfl
          obtain rfl := cf5.out rfl
          obtain rfl := cf6.out rfl
          obtain rfl := cf7.out rfl
          have v_fn := d_fn0.out rfl
          have v_nb := d_nb1.out rfl
          go_simp
          try simp only [sx]
          refine hK.out _ _ ((hI.out _ _ _).2 ⟨true,true,true,true,true,true,true,true,_,_,_,_,_,_,_,_,_,rfl,(HF.out _ _ _ _ _ _ _).symm,S_,trivial,(fun _ => rfl),(fun _ => rfl),(fun _ => rfl),(fun _ => rfl),(fun _ => rfl),(fun _ => rfl),(fun _ => rfl),(fun _ => rfl),cf4,cf5,cf6,cf7,(fun _ => rfl),(fun h => nomatch h),d_fn0,(fun h => nomatch h),(fun _ h => nomatch h),d_nb1⟩)
      · refine (hI.out _ _ _).2 ⟨false,false,false,false,false,false,false,false,_,_,_,_,_,_,_,eNo,eNo,rfl,(HF.out _ _ _ _ _ _ _).symm,(S2.out.no.no : Sep w.heap.size w [eNo,eNo,eInts m.all (.slice AV m.all.length cV),eBlk cb 91 (ckC c),eMc m q,eBlk rb 52 [.int .i64 0,.slice none 0 0],eBlk sb 52 [.int .i64 c.1,.slice AT c.2.length cp],eBlk mb 37 [.slice p.A1 m.a.al.length p.c1,.int .i64 m.a.n,.slice p.A2 m.a.mr.length p.c2,.slice p.A3 m.a.ed.length p.c3,.slice B m.ac.length d,.int .i64 m.tk]] w2),trivial,(fun h => nomatch h),(fun h => nomatch h),(fun h => nomatch h),(fun h => nomatch h),(fun h => nomatch h),(fun h => nomatch h),(fun h => nomatch h),(fun h => nomatch h),(fun h => nomatch h),(fun h => nomatch h),(fun h => nomatch h),(fun h => nomatch h),(fun h => nomatch h),(fun _ => rfl),(fun h => nomatch h),(fun _ => rfl),(fun h => nomatch h),(fun h => nomatch h)⟩
     case rest =>
      clear S8 HEF HMEM
      obtain ⟨nb,rfl,rfl,S⟩ := hcut
      cases bb
      · have ES2 : Hid (spP m c e = (none,0)) := by rw [Hid,ES.out,HNO.out rfl]
        have r0 := BlkAt.cell (S.out.get 3 rfl) 0
        have r1 := BlkAt.cell (S.out.get 3 rfl) 1
        have f0 := BlkAt.free (S.out.get 3 rfl) 0
        have f1 := BlkAt.free (S.out.get 3 rfl) 1
        have S30 := Lib.hid ((S.out.set 3 rfl 0 (.int .i64 0)).set 3 rfl 1 (.slice none 0 0))
        have g0 := BlkAt.cell (S30.out.get 3 rfl) 0
        have g1 := BlkAt.cell (S30.out.get 3 rfl) 1
        simp only [List.set_cons_succ,List.set_cons_zero,List.getElem?_cons_succ,List.getElem?_cons_zero] at r0 r1 g0 g1
        clear S
        go_wp2_with fail
        refine bodyPost_ret (v := .tuple #[.agg #[.int .i64 0,.slice none 0 0],.bool false,.int .i64 0]) (by simp [results,Tryz.results17,go_sem, *]) rfl ?_
        rw [HEV.out,ES2.out] at *
        exact GivesSE.no S30.out.below
      · obtain ⟨hrd,hdi⟩ := HIS.out rfl
        have ES2 : Hid (spP m c e = (some dd,0)) := by rw [Hid,ES.out,hrd]
        have SC := Lib.hid (state_c m q dd wc HM.out (HQ.out wc S.out.below (S.out.get 2 rfl)) hdi)
        have hd32 := HD32.out
        clear hrd hdi
        go_wp2_with (refine wpList_ckLoad dd nb (S.out.get 0 rfl) hd32 rfl _ rfl rfl ?_)
        refine SC.out.mono ?_
        rintro e9 w9 ⟨A,c9,rfl,T⟩
        have S9 := Lib.hid (S.out.news T.out)
        simp only [List.append_eq,List.nil_append,List.cons_append] at S9
        clear T SC S
        have r0 := BlkAt.cell (S9.out.get 4 rfl) 0
        have r1 := BlkAt.cell (S9.out.get 4 rfl) 1
        have f0 := BlkAt.free (S9.out.get 4 rfl) 0
        have f1 := BlkAt.free (S9.out.get 4 rfl) 1
        have S5 := Lib.hid ((S9.out.set 4 rfl 0 (.int .i64 dd.1)).set 4 rfl 1 (.slice A dd.2.length c9))
        have g0 := BlkAt.cell (S5.out.get 4 rfl) 0
        have g1 := BlkAt.cell (S5.out.get 4 rfl) 1
        simp only [List.set_cons_succ,List.set_cons_zero,List.getElem?_cons_succ,List.getElem?_cons_zero] at r0 r1 g0 g1
        clear S9 hd32
        go_wp2_with fail
        refine bodyPost_ret (v := .tuple #[.agg #[.int .i64 dd.1,.slice A dd.2.length c9],.bool true,.int .i64 0]) (by simp [results,Tryz.results17,go_sem, *]) rfl ?_
        rw [HEV.out,ES2.out] at *
        exact ⟨A,c9,rfl,S5.out.pick [0] (by decide)⟩
   · have ES : Hid (spP m c e = (none,9)) := by
      rw [Hid]; unfold spP
      rw [if_pos HST.out,if_neg hmem]
     have HNM := Lib.hid hmem
     clear hmem
     go_wp2_with fail
     refine CC.out.mono ?_
     intro e8 w8 hs
     obtain ⟨rfl,rfl⟩ := hs.no3 HNM.out
     have S8 := S4
     clear S4 CC hs
     have r0 := BlkAt.cell (S8.out.get 3 rfl) 0
     have r1 := BlkAt.cell (S8.out.get 3 rfl) 1
     have f0 := BlkAt.free (S8.out.get 3 rfl) 0
     have f1 := BlkAt.free (S8.out.get 3 rfl) 1
     have S30 := Lib.hid ((S8.out.set 3 rfl 0 (.int .i64 0)).set 3 rfl 1 (.slice none 0 0))
     have g0 := BlkAt.cell (S30.out.get 3 rfl) 0
     have g1 := BlkAt.cell (S30.out.get 3 rfl) 1
     simp only [List.set_cons_succ,List.set_cons_zero,List.getElem?_cons_succ,List.getElem?_cons_zero] at r0 r1 g0 g1
     clear S8
     go_wp2_with fail
     refine bodyPost_ret (v := .tuple #[.agg #[.int .i64 0,.slice none 0 0],.bool false,.int .i64 9]) (by simp [results,Tryz.results17,go_sem, *]) rfl ?_
     rw [ES.out]
     exact GivesSE.no S30.out.below
end Go.Proofs.YtimdepdbcdbikaaGreat
