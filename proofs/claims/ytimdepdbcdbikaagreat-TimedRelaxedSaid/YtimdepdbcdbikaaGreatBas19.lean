/-
  timed.Duration.
  overseerlaw44: same, usual, prepared.
  overseerlaw44.example.
  Plain: what reach.Cycle finds, as a function.
  reach.graph.round: the least word, with an event, from a state to itself.
-/
import Derived.Test.YtimdepdbcdbikaaGreatBas18
import Derived.Test.YtimdepdbcdbikaaGreatBas05
import Derived.BigQuiet
import Derived.Deep.MidRow
import Derived.Test.YtimdepdbcdbikaaGreatBas13
import Derived.Test.YtimdepdbcdbikaaGreatBas04
import Derived.Test.YtimdepdbcdbikaaGreatBas12
import Derived.Test.YtimdepdbcdbikaaGreatBas09
set_option linter.unusedSimpArgs false
set_option linter.unusedVariables false
namespace Go.Proofs.YtimdepdbcdbikaaGreat
open Go.RowKit
set_option maxRecDepth 100000
set_option maxHeartbeats 1000000 in
theorem containsFI_c (g : Nat) (lb : Array Value) (eg : ∀ args w,(callFunc g args).run Tryz.prog w = .ok (.enter g args) w) (p : Int → Prop) (A : Option Addr) (c : Nat) (l : List Int) (w : World)
 (hA : IntsAt w A l) (hl : l.length ≤ 140737488355328) (hp : PredOn Tryz.prog g lb (Value.int .i64) p l w) :
 Calls Tryz.prog 45 #[.slice A l.length c,.func (.func g) #[] lb] w (Tells (∃ x,x ∈ l ∧ p x) w) := by
 have HC := Lib.hid (indexI_c g lb eg p A c l w hA hl hp)
 clear hA hp
 go_enter Tryz.func45,Tryz.ntmps45
 go_wp2_with fail
 refine HC.out.mono ?_
 rintro e w1 ⟨r,rfl,hr,hb⟩
 have HR := Lib.hid (Indexes.some_iff hr)
 obtain ⟨v,hv⟩ : ∃ v,v = decide (0 ≤ r) := ⟨_,rfl⟩
 have HV := Lib.hid hv
 have HB := Lib.hid hb
 clear hr hb
 go_wp2_with fail
 go_ret
 refine ⟨v,by rw [hv]; rfl,?_,HB.out⟩
 rw [HV.out,decide_eq_true_iff]
 exact HR.out
set_option maxHeartbeats 1000000 in
theorem dur1_c (m : Md) (P : MdP) (mb : Nat) (x : Int) (w : World) (hA : Md.At w m P) (hl : m.a.al.length ≤ 32) (hb : BlkAt w mb 37 (m.cells P)) :
 Calls Tryz.prog 46 #[.int .i64 x,.pointer (some ⟨mb,0,none⟩)] w (Tells (¬ x ∈ m.a.al) w) := by
 have HC := Lib.hid (containsV_c P.p.A1 P.p.c1 m.a.al x w hA.a.al (by omega))
 have b0 := hb.cell 0
 simp only [Md.cells,List.getElem?_cons_zero] at b0
 clear hA hb
 go_enter Tryz.func46,Tryz.ntmps46
 go_wp2_with fail
 refine HC.out.mono ?_
 intro e w1 hs
 rcases hs.no1 with ⟨rfl,hn,rfl⟩ | ⟨rfl,hn,rfl⟩
 · go_wp2_with fail
   go_ret
   exact ⟨true,rfl,by simp only [true_iff]; exact hn.out,Below.refl _ _⟩
 · go_wp2_with fail
   go_ret
   exact ⟨false,rfl,by simp only [Bool.false_eq_true,false_iff,Decidable.not_not]; exact hn.out,Below.refl _ _⟩
theorem Sep.rngLeft {κ β : Type} [DecidableEq κ] {key : κ → Value} {ve : β → Value} {n b r cnt : Nat} {w0 w : World} {f : κ → Option β} {left : κ → Bool} {es : List Ent} (S : Sep n w0 (eRng key ve b r f left cnt :: es) w) : w.rangeLeft b r = cnt := RngAt.left (S.get 0 rfl)
def GivesDu (m : Md) (wd : List Int) (w : World) (e : Ending) (w' : World) : Prop := ∃ (x y : Int) (f : Bool) (r : Int),e = .returned (.tuple #[.int .i64 x,.int .i64 y,.bool f,.int .i64 r]) ∧ Below w.heap.size w w' ∧ Hid (((∀ v,v ∈ wd → v ∈ m.a.al) ∧ r = 0 ∧ (x,y,f) = durV m wd) ∨ (¬ (∀ v,v ∈ wd → v ∈ m.a.al) ∧ r = 9 ∧ x = 0 ∧ y = 0 ∧ f = false))
set_option maxHeartbeats 8000000 in
theorem duration_c (m : Md) (P : MdP) (AW : Option Addr) (cW : Nat) (wd : List Int) (w : World) (hm : m.Ok) (hA : Md.At w m P) (hn : 0 < m.a.n) (hf : Few m) (hc : m.a.al.length ≤ P.p.c1) (hW : IntsAt w AW wd) (hl : wd.length ≤ 4096) :
 Calls Tryz.prog 23 #[.agg (m.cells P).toArray,.slice AW wd.length cW] w (GivesDu m wd w) := by
 have HM := Lib.hid hm
 have HA := Lib.hid hA
 have HF := Lib.hid hf
 have HC := Lib.hid hc
 have HNP := Lib.hid hn
 have HW := Lib.hid hW
 have h32 := hm.len32
 have hal : m.a.al.length ≤ 32 := by rw [← hm.len]; exact hm.len32
 obtain ⟨p,B,d⟩ := P
 clear hm hA hf hc hn hW
 go_enter Tryz.func23,Tryz.ntmps23
 obtain ⟨mb,hmb⟩ : ∃ g,g = w.heap.size := ⟨_,rfl⟩
 go_upto_region 1 with fail
 rw [← hmb]
 refine wp_world (fun W => Sep w.heap.size w [eBlk mb 37 [.slice p.A1 m.a.al.length p.c1,.int .i64 m.a.n,.slice p.A2 m.a.mr.length p.c2,.slice p.A3 m.a.ed.length p.c3,.slice B m.ac.length d,.int .i64 m.tk]] W) ((Sep.here w).alloc' _ [_,_,_,_,_,_] rfl hmb) fun W S => ?_
 have S0 := Lib.hid S
 clear S hmb
 have b0 := BlkAt.cell (S0.out.get 0 rfl) 0; have b1 := BlkAt.cell (S0.out.get 0 rfl) 1; have b2 := BlkAt.cell (S0.out.get 0 rfl) 2; have b3 := BlkAt.cell (S0.out.get 0 rfl) 3; have b4 := BlkAt.cell (S0.out.get 0 rfl) 4; have b5 := BlkAt.cell (S0.out.get 0 rfl) 5; simp only [List.getElem?_cons_succ,List.getElem?_cons_zero] at b0 b1 b2 b3 b4 b5
 have CC := Lib.hid (check44_c m ⟨p,B,d⟩ W HM.out (HA.out.below S0.out.below))
 dsimp only [Md.cells] at CC
 go_wp2_with fail
 refine CC.out.mono ?_
 rintro e w2 ⟨rfl,hb⟩
 have S2 := Lib.hid (S0.out.next hb)
 clear CC hb S0 b0 b1 b2 b3 b4 b5
 have FC := Lib.hid (containsFI_c 46 #[.pointer (some ⟨mb,0,none⟩)] (fun args w => by rfl) (fun v => ¬ v ∈ m.a.al) AW cW wd w2 (HW.out.below IntE.stays S2.out.below) (by omega) (fun V x _ hb => dur1_c m ⟨p,B,d⟩ mb x V (HA.out.below (S2.out.next hb).below) (by omega) ((S2.out.next hb).get 0 rfl)))
 go_wp2_with fail
 refine FC.out.mono ?_
 intro e w3 hs
 rcases hs.no1 with ⟨rfl,hn,hb⟩ | ⟨rfl,hn,hb⟩
 case inr =>
  have S3 := Lib.hid (S2.out.next hb)
  have HN : Hid (¬ ∀ v,v ∈ wd → v ∈ m.a.al) := fun g => by
   obtain ⟨x,hx,h⟩ := hn.out
   exact h (g x hx)
  clear FC S2 hb hs hn
  go_wp2_with fail
  refine bodyPost_ret (v := .tuple #[.int .i64 0,.int .i64 0,.bool false,.int .i64 9]) (by simp [results,Tryz.results23,go_sem]) rfl ?_
  exact ⟨0,0,false,9,rfl,S3.out.below,.inr ⟨HN.out,rfl,rfl,rfl,rfl⟩⟩
 case inl =>
  have S3 := Lib.hid (S2.out.next hb)
  have HY : Hid (∀ v,v ∈ wd → v ∈ m.a.al) := fun v hv => Decidable.of_not_not fun g => hn.out ⟨v,hv,g⟩
  clear FC S2 hb hs hn
  have b0 := BlkAt.cell (S3.out.get 0 rfl) 0; have b1 := BlkAt.cell (S3.out.get 0 rfl) 1; have b2 := BlkAt.cell (S3.out.get 0 rfl) 2; have b3 := BlkAt.cell (S3.out.get 0 rfl) 3; have b4 := BlkAt.cell (S3.out.get 0 rfl) 4; have b5 := BlkAt.cell (S3.out.get 0 rfl) 5; simp only [List.getElem?_cons_succ,List.getElem?_cons_zero] at b0 b1 b2 b3 b4 b5
  have NC := Lib.hid (newMachine_c m ⟨p,B,d⟩ w3 HM.out (HA.out.below S3.out.below))
  dsimp only [Md.cells] at NC
  have hwl : decide ((4096 : Int) < (wd.length : Int)) = false := decide_eq_false (by omega)
  have hwl2 : decide (4096 < wd.length) = false := decide_eq_false (by omega)
  go_wp2_with fail
  refine NC.out.mono ?_
  rintro e w4 ⟨q,rfl,hqP,hqL,TT⟩
  have S4 := qkN S3.out TT.out
  have HCQ : Hid (m.a.al.length ≤ q.P.p.c1) := by rw [hqP]; exact HC.out
  have HQ : Hid (∀ V,Below w.heap.size w V → (eMc m q).ok V → Mch V m q) := fun V hb h => Mch.of h (by rw [hqP]; exact HA.out.below hb) hqL
  clear NC TT S3 b0 b1 b2 b3 b4 b5 hqP hqL
  go_wp2_with fail
  refine (unfold_c m q w4 HM.out (HQ.out _ S4.out.below (S4.out.get 0 rfl)) HNP.out HF.out HCQ.out).mono ?_
  rintro e w5 ⟨fs,ed,p5,AF,cF,rfl,TT,HU,HL⟩
  have S5 : Hid (Sep w.heap.size w [eMc m q,eBlk mb 37 [.slice p.A1 m.a.al.length p.c1,.int .i64 m.a.n,.slice p.A2 m.a.mr.length p.c2,.slice p.A3 m.a.ed.length p.c3,.slice B m.ac.length d,.int .i64 m.tk]] w5) := S4.out.next TT.out.below
  clear TT S4 HU HL
  dsimp only [Au.val]
  go_upto_region 10 with fail
  refine wp_world (fun V => Hid (Sep w.heap.size w [eMc m q,eBlk mb 37 [.slice p.A1 m.a.al.length p.c1,.int .i64 m.a.n,.slice p.A2 m.a.mr.length p.c2,.slice p.A3 m.a.ed.length p.c3,.slice B m.ac.length d,.int .i64 m.tk]] V)) (S5.out.next (Below.new _ _)) fun W6 S' => ?_
  have S6 := Lib.hid S'.out
  clear S' S5
  have HOK : Hid (∀ k,k ≤ wd.length → ∀ y,y ∈ nowV m wd k → SpOk m (4000 * k) y) := fun k hk => nowV_ok HM.out HF.out HNP.out wd k hk
  have HST : Hid (m.start.2.length = m.ac.length) := by rw [Hid]; simp [Md.start,Md.dfs]
  have hst := HST.out
  have hmm0 := @run_makeMap Tryz.prog
  have hne : (m.a.n == 0) = false := beq_eq_false_iff_ne.2 (by have := HNP.out; omega)
  have b0 := BlkAt.cell (S6.out.get 1 rfl) 0; have b1 := BlkAt.cell (S6.out.get 1 rfl) 1; have b2 := BlkAt.cell (S6.out.get 1 rfl) 2; have b3 := BlkAt.cell (S6.out.get 1 rfl) 3; have b4 := BlkAt.cell (S6.out.get 1 rfl) 4; have b5 := BlkAt.cell (S6.out.get 1 rfl) 5; simp only [List.getElem?_cons_succ,List.getElem?_cons_zero] at b0 b1 b2 b3 b4 b5
  go_upto_region 14 with fail
  obtain ⟨nz,hnb⟩ : ∃ g,g = W6.heap.size := ⟨_,rfl⟩
  have S7 := S6.out.allocMapR (keyC (K := m.ac.length)) veS hnb
  have hdl : m.dfs.length ≤ 32 := by simp [Md.dfs]; omega
  have HQ7 := Lib.hid (HQ.out _ S7.below (S7.get 1 rfl))
  clear b0 b1 b2 b3 b4 b5 hne
  go_upto_region 15 with (first | refine wpList_load_mid rfl 89 _ rfl q.g 6 rfl (ckT m.dfs) _ (HQ7.out.dfRange h32) Tryz.underlying89 rfl (by rw [ckT_info,ckT_len hdl]) ?_ | refine wpList_buildTo rfl 91 _ rfl (some 55) rfl (ckC m.start).toArray (Eq.trans (congrArg _ (by kernel_rfl)) (built_ck1 (t := m.dfs) hdl)) ?_ | (rw [← hnb]; refine wpList_insertR rfl _ _ _ 110 91 109 rfl S7 0 rfl (okC h32) Tryz.underlying110 ⟨m.start,hst⟩ ⟨0,0,false⟩ rfl rfl rfl ?_))
  intro w8 S8
  try rw [← hnb] at S8
  try rw [← hnb]
  clear hmm0 HQ7
  go_upto_region 15 with fail
  try rw [← hnb]
  refine wp_world (fun V => Hid (Sep w.heap.size w [eMapR (keyC (K := m.ac.length)) veS nz (fun u : CkK m.ac.length => (lkS (nowV m wd 0)) u.1),eMc m q,eBlk mb 37 [.slice p.A1 m.a.al.length p.c1,.int .i64 m.a.n,.slice p.A2 m.a.mr.length p.c2,.slice p.A3 m.a.ed.length p.c3,.slice B m.ac.length d,.int .i64 m.tk]] V)) (Sep.mapRAs (g := fun u : CkK m.ac.length => (lkS (nowV m wd 0)) u.1) S8 fun u => by
   obtain ⟨u,hu⟩ := u
   simp only [nowV,List.take_zero,List.foldl_nil,lkS,List.find?_cons,Subtype.mk.injEq]
   by_cases e : m.start = u
   · subst e; simp
   · have : ¬ u = m.start := fun g => e g.symm
     simp [e,this]) fun W9 S' => ?_
  have S9 := Lib.hid S'.out
  clear S' S8 S7 S6 hnb hst hdl
  go_wp2_with fail
  go_loopw [60,13] (fun vi vn wr => ∃ (k nb : Nat),vi = .int .i64 (k : Int) ∧ vn = .map (some nb) ∧ k ≤ wd.length ∧ Hid (Sep w.heap.size w [eMapR (keyC (K := m.ac.length)) veS nb (fun u : CkK m.ac.length => (lkS (nowV m wd k)) u.1),eMc m q,eBlk mb 37 [.slice p.A1 m.a.al.length p.c1,.int .i64 m.a.n,.slice p.A2 m.a.mr.length p.c2,.slice p.A3 m.a.ed.length p.c3,.slice B m.ac.length d,.int .i64 m.tk]] wr)) (fun vi _ _ => wd.length - (intOf vi).toNat)
  case atStart => exact ⟨0,nz,rfl,rfl,Nat.zero_le _,S9.out⟩
  case round =>
   clear S9
   obtain ⟨k,nb,rfl,rfl,hk,S⟩ := hrel
   have hwr : IntKind.i64.wrap ((k : Int) + 1) = (k : Int) + 1 := IntWalk.i64_in _ (by omega)
   by_cases hlt : k < wd.length
   · obtain ⟨gw,ow,e,hAW,hgw,he,ce⟩ := IntsAt.at (HW.out.below IntE.stays S.out.below) hlt
     subst hAW
     have hmem := HY.out e (List.mem_of_getElem? he)
     obtain ⟨i,hi⟩ := List.mem_iff_getElem?.1 hmem
     have hix := Md.idx_at HM.out hi
     have hil : i < m.ac.length := by rw [HM.out.len]; exact (List.getElem?_eq_some_iff.1 hi).1
     have BS := Lib.hid (bsearchP_c p.A1 p.c1 m.a.al e wr (HA.out.a.al.below IntE.stays S.out.below) (by omega) HM.out.a.al.incr)
     have HMM := Lib.hid hmem
     have HE := Lib.hid he
     have HI := Lib.hid hi
     have HIX := Lib.hid hix
     have b0 := BlkAt.cell (S.out.get 2 rfl) 0; simp only [List.getElem?_cons_succ,List.getElem?_cons_zero] at b0
     clear hmem he hi hgw hix
     go_wp2_with fail
     refine BS.out.mono ?_
     rintro e2 w3 ⟨i',r,rfl,hfi,rfl⟩
     have hii : i' = i := by rw [← HIX.out]; exact (Md.idx_at HM.out (hfi HMM.out)).symm
     subst hii
     clear hfi BS ce b0
     have hmm0 := @run_makeMap Tryz.prog
     obtain ⟨xb,hxb⟩ : ∃ g,g = wr.heap.size := ⟨_,rfl⟩
     go_upto_region 20 with fail
     rw [← hxb]
     refine wp_world (fun V => Hid (Sep w.heap.size w [eMapR (keyC (K := m.ac.length)) veS nb (fun u : CkK m.ac.length => (lkS (nowV m wd k)) u.1),eMapR (keyC (K := m.ac.length)) veS xb (fun u : CkK m.ac.length => (([] : List (Ck × Sp)).foldl jnF (fun _ => none)) u.1),eMc m q,eBlk mb 37 [.slice p.A1 m.a.al.length p.c1,.int .i64 m.a.n,.slice p.A2 m.a.mr.length p.c2,.slice p.A3 m.a.ed.length p.c3,.slice B m.ac.length d,.int .i64 m.tk]] V)) ((S.out.allocMapR (keyC (K := m.ac.length)) veS hxb).pick [1,0,2,3] (by decide)) fun W10 S' => ?_
     have S10 := Lib.hid S'.out
     clear S' S hxb hmm0
     go_wp2_with (at_range; refine wpList_rangeR rfl _ 110 91 109 rfl S10.out Tryz.underlying110 rfl ?_)
     intro r cnt w11 S11
     have S12 : Hid (Sep w.heap.size w [eRng (keyC (K := m.ac.length)) veS nb r (fun u : CkK m.ac.length => (lkS (nowV m wd k)) u.1) (fun u => (lkS (nowV m wd k) u.1).isSome) cnt,eMapR (keyC (K := m.ac.length)) veS xb (fun u : CkK m.ac.length => ((([] : List (Ck × Sp)).flatMap (conV m i')).foldl jnF (fun _ => none)) u.1),eMc m q,eBlk mb 37 [.slice p.A1 m.a.al.length p.c1,.int .i64 m.a.n,.slice p.A2 m.a.mr.length p.c2,.slice p.A3 m.a.ed.length p.c3,.slice B m.ac.length d,.int .i64 m.tk]] w11) := S11
     clear S11 S10
     go_wp2_with fail
     try go_frame
     go_loopw [75] (fun _ wr => ∃ (left : CkK m.ac.length → Bool) (cnt : Nat) (D : List (Ck × Sp)),Hid (Done (nowV m wd k) left D) ∧ Hid (Sep w.heap.size w [eRng (keyC (K := m.ac.length)) veS nb r (fun u : CkK m.ac.length => (lkS (nowV m wd k)) u.1) left cnt,eMapR (keyC (K := m.ac.length)) veS xb (fun u : CkK m.ac.length => ((D.flatMap (conV m i')).foldl jnF (fun _ => none)) u.1),eMc m q,eBlk mb 37 [.slice p.A1 m.a.al.length p.c1,.int .i64 m.a.n,.slice p.A2 m.a.mr.length p.c2,.slice p.A3 m.a.ed.length p.c3,.slice B m.ac.length d,.int .i64 m.tk]] wr)) (fun _ wr => wr.rangeLeft nb r)
     case atStart => exact ⟨_,cnt,[],Done.start,S12.out⟩
     case round =>
      clear S12
      obtain ⟨left,cnt,D,DN,S⟩ := hrel
      have HCT : Hid (wr.rangeLeft nb r = cnt) := RngAt.left (S.out.get 0 rfl)
      go_wp2_with (at_next; refine wpList_nextR rfl _ rfl S.out rfl ?_ ?_)
      · intro hl0
        have HP := DN.out.perm (nowV_nd m wd k) (fun y hy => (HOK.out k (by omega) y hy).1.len) hl0
        have EQ : Hid ((D.flatMap (conV m i')).foldl jnF (fun _ => none) = lkS (nowV m wd (k + 1))) := by
         rw [Hid,nowV_next HE.out,nxtV,insL_lk,HIX.out]
         exact jnF_perm (HP.flatMap_right _) _
        have S13 : Hid (Sep w.heap.size w [eMapR (keyC (K := m.ac.length)) veS xb (fun u : CkK m.ac.length => (lkS (nowV m wd (k + 1))) u.1),eMc m q,eBlk mb 37 [.slice p.A1 m.a.al.length p.c1,.int .i64 m.a.n,.slice p.A2 m.a.mr.length p.c2,.slice p.A3 m.a.ed.length p.c3,.slice B m.ac.length d,.int .i64 m.tk]] wr) := by have h := S.out.drop1; rw [EQ.out] at h; exact h
        clear S HCT HP EQ
        go_wp2_with fail
        go_roundw
        case rel => exact ⟨k + 1,xb,by go_num,rfl,by omega,S13.out⟩
        case measure => simp [intOf]; omega
      · intro kv vv w13 hmore
        obtain ⟨x,v,cnt',rfl,rfl,hlx,hfx,S13,hcl,hen⟩ := hmore
        have DN2 : Hid (Done (nowV m wd k) (fun y => left y && !decide (y = x)) (D ++ [(x.1,v)])) := DN.out.next x hlx hfx
        have hsp := HOK.out k (by omega) (x.1,v) ((lkS_mem (nowV_nd m wd k)).1 hfx)
        obtain ⟨⟨c,hcK⟩,hxc⟩ : ∃ y,y = x := ⟨_,rfl⟩
        subst hxc
        have hc32 : c.2.length ≤ 32 := by rw [hcK]; exact h32
        unfold keyC veS at hen
        dsimp only at hsp hen
        have HSP := Lib.hid hsp
        have HCL := Lib.hid hcl
        obtain ⟨b1,hb1⟩ : ∃ g,g = w13.heap.size := ⟨_,rfl⟩
        obtain ⟨b2,hb2⟩ : ∃ g,g = w13.heap.size + 1 := ⟨_,rfl⟩
        have S14 := (S13.alloc' 91 (ckC (0,[])) (o := .cells (ckC (0,[])).toArray 91) rfl hb1).alloc' 109 [.int .i64 0,.int .i64 0,.bool false] (o := .cells #[.int .i64 0,.int .i64 0,.bool false] 109) rfl (show b2 = _ by rw [hb2]; simp)
        clear S DN hlx hfx hsp hcl
        go_upto_region 23 with (rw [← hb2,← hb1]; refine wpList_ckAt c hc32 rfl _ _ rfl S14 1 b1 (0,[]) (by simp) rfl rfl rfl ?_)
        intro w14 S15
        rw [← hb2,← hb1] at S15
        have S16 : Hid (Sep w.heap.size w [eBlk b2 109 [.int .i64 0,.int .i64 0,.bool false],eBlk b1 91 (ckC c),eRng (keyC (K := m.ac.length)) veS nb r (fun u : CkK m.ac.length => (lkS (nowV m wd k)) u.1) (fun y => left y && !decide (y = ⟨c,hcK⟩)) cnt',eMapR (keyC (K := m.ac.length)) veS xb (fun u : CkK m.ac.length => ((D.flatMap (conV m i')).foldl jnF (fun _ => none)) u.1),eMc m q,eBlk mb 37 [.slice p.A1 m.a.al.length p.c1,.int .i64 m.a.n,.slice p.A2 m.a.mr.length p.c2,.slice p.A3 m.a.ed.length p.c3,.slice B m.ac.length d,.int .i64 m.tk]] w14) := S15
        clear S15 S14 S13 hen
        try rw [← hb2]
        try rw [← hb1]
        clear hb1 hb2
        have s0 := BlkAt.cell (S16.out.get 0 rfl) 0; have s1 := BlkAt.cell (S16.out.get 0 rfl) 1; have s2 := BlkAt.cell (S16.out.get 0 rfl) 2; simp only [List.getElem?_cons_succ,List.getElem?_cons_zero] at s0 s1 s2
        have sf0 := BlkAt.free (S16.out.get 0 rfl) 0; have sf1 := BlkAt.free (S16.out.get 0 rfl) 1; have sf2 := BlkAt.free (S16.out.get 0 rfl) 2
        have S17 : Hid (Sep w.heap.size w [eBlk b2 109 [.int .i64 v.lo,.int .i64 v.hi,.bool v.en],eBlk b1 91 (ckC c),eRng (keyC (K := m.ac.length)) veS nb r (fun u : CkK m.ac.length => (lkS (nowV m wd k)) u.1) (fun y => left y && !decide (y = ⟨c,hcK⟩)) cnt',eMapR (keyC (K := m.ac.length)) veS xb (fun u : CkK m.ac.length => ((D.flatMap (conV m i')).foldl jnF (fun _ => none)) u.1),eMc m q,eBlk mb 37 [.slice p.A1 m.a.al.length p.c1,.int .i64 m.a.n,.slice p.A2 m.a.mr.length p.c2,.slice p.A3 m.a.ed.length p.c3,.slice B m.ac.length d,.int .i64 m.tk]] (((w14.setCell ⟨b2,0,none⟩ (.int .i64 v.lo)).setCell ⟨b2,1,none⟩ (.int .i64 v.hi)).setCell ⟨b2,2,none⟩ (.bool v.en))) := ((S16.out.set 0 rfl 0 _).set 0 rfl 1 _).set 0 rfl 2 _
        go_upto_region 23 with fail
        refine wp_world (fun V => Hid (Sep w.heap.size w [eBlk b2 109 [.int .i64 v.lo,.int .i64 v.hi,.bool v.en],eBlk b1 91 (ckC c),eRng (keyC (K := m.ac.length)) veS nb r (fun u : CkK m.ac.length => (lkS (nowV m wd k)) u.1) (fun y => left y && !decide (y = ⟨c,hcK⟩)) cnt',eMapR (keyC (K := m.ac.length)) veS xb (fun u : CkK m.ac.length => ((D.flatMap (conV m i')).foldl jnF (fun _ => none)) u.1),eMc m q,eBlk mb 37 [.slice p.A1 m.a.al.length p.c1,.int .i64 m.a.n,.slice p.A2 m.a.mr.length p.c2,.slice p.A3 m.a.ed.length p.c3,.slice B m.ac.length d,.int .i64 m.tk]] V)) S17 fun W15 S' => ?_
        have S18 := Lib.hid S'.out
        clear S' S17 S16 s0 s1 s2 sf0 sf1 sf2
        have s0 := BlkAt.cell (S18.out.get 0 rfl) 0; have s1 := BlkAt.cell (S18.out.get 0 rfl) 1; have s2 := BlkAt.cell (S18.out.get 0 rfl) 2; simp only [List.getElem?_cons_succ,List.getElem?_cons_zero] at s0 s1 s2
        have OC := Lib.hid (onward_c m q xb i' ((D.flatMap (conV m i')).foldl jnF (fun _ => none)) c v w.heap.size w W15 (eRng (keyC (K := m.ac.length)) veS nb r (fun u : CkK m.ac.length => (lkS (nowV m wd k)) u.1) (fun y => left y && !decide (y = ⟨c,hcK⟩)) cnt') (eBlk mb 37 [.slice p.A1 m.a.al.length p.c1,.int .i64 m.a.n,.slice p.A2 m.a.mr.length p.c2,.slice p.A3 m.a.ed.length p.c3,.slice B m.ac.length d,.int .i64 m.tk]) HM.out HQ.out HF.out HSP.out.1 hil (by have h := HSP.out.2; dsimp only at h; omega) (S18.out.pick [3,4,2,5] (by decide)))
        go_wp2_with (refine wpList_ckLoad c b1 (S18.out.get 1 rfl) hc32 rfl _ rfl rfl ?_)
        refine OC.out.mono ?_
        rintro e3 w16 ⟨⟨u,rfl⟩,S19⟩
        have S20 : Hid (Sep w.heap.size w [eRng (keyC (K := m.ac.length)) veS nb r (fun u : CkK m.ac.length => (lkS (nowV m wd k)) u.1) (fun y => left y && !decide (y = ⟨c,hcK⟩)) cnt',eMapR (keyC (K := m.ac.length)) veS xb (fun u : CkK m.ac.length => (((D ++ [(c,v)]).flatMap (conV m i')).foldl jnF (fun _ => none)) u.1),eMc m q,eBlk mb 37 [.slice p.A1 m.a.al.length p.c1,.int .i64 m.a.n,.slice p.A2 m.a.mr.length p.c2,.slice p.A3 m.a.ed.length p.c3,.slice B m.ac.length d,.int .i64 m.tk]] w16) := by
         have h := S19.out
         rw [← List.foldl_append] at h
         rw [List.flatMap_append]
         simp only [List.flatMap_cons,List.flatMap_nil,List.append_nil]
         exact h.pick [2,0,1,3] (by decide)
        clear S19 OC S18 s0 s1 s2
        go_wp2_with fail
        go_roundw
        case rel => exact ⟨_,cnt',D ++ [(c,v)],DN2.out,S20.out⟩
        case measure =>
         have HL2 : w16.rangeLeft nb r = cnt' := Sep.rngLeft S20.out
         rw [HCT.out,HL2]
         exact HCL.out
   · obtain rfl : k = wd.length := by omega
     obtain ⟨nl,hlen,hz⟩ := MapR.len Tryz.underlying110 (S.out.get 0 rfl)
     have hln := hlen 3
     have HZ : Hid (nl = 0 ↔ nowV m wd wd.length = []) := by
      rw [Hid,hz]
      constructor
      · intro h
        cases hE : nowV m wd wd.length with
        | nil => rfl
        | cons x L =>
          have hx : x ∈ nowV m wd wd.length := by rw [hE]; exact List.mem_cons_self
          have h1 := (lkS_mem (nowV_nd m wd wd.length)).2 hx
          have h2 := h ⟨x.1,(HOK.out _ (Nat.le_refl _) x hx).1.len⟩
          rw [h1] at h2; cases h2
      · intro h x
        rw [h]; rfl
     clear hlen hz
     by_cases h0 : nl = 0
     · subst h0
       have HE0 : Hid ((0,0,false) = durV m wd) := by unfold durV; rw [HZ.out.1 rfl]; rfl
       go_wp2_with fail
       refine bodyPost_ret (v := .tuple #[.int .i64 0,.int .i64 0,.bool false,.int .i64 0]) (by simp [results,Tryz.results23,go_sem]) rfl ?_
       exact ⟨0,0,false,0,rfl,S.out.below,.inl ⟨HY.out,rfl,HE0.out⟩⟩
     · have hce : ((nl : Int) == 0) = false := beq_eq_false_iff_ne.2 (by omega)
       have HNE : Hid (nowV m wd wd.length ≠ []) := fun g => h0 (HZ.out.2 g)
       clear h0 HZ
       obtain ⟨tb,htb⟩ : ∃ g,g = wr.heap.size := ⟨_,rfl⟩
       go_upto_region 29 with fail
       rw [← htb]
       refine wp_world (fun V => Hid (Sep w.heap.size w [eMapR (keyC (K := m.ac.length)) veS nb (fun u : CkK m.ac.length => (lkS (nowV m wd wd.length)) u.1),eBlk tb 109 [.int .i64 (⟨-1,0,false⟩ : Sp).lo,.int .i64 (⟨-1,0,false⟩ : Sp).hi,.bool (⟨-1,0,false⟩ : Sp).en],eMc m q,eBlk mb 37 [.slice p.A1 m.a.al.length p.c1,.int .i64 m.a.n,.slice p.A2 m.a.mr.length p.c2,.slice p.A3 m.a.ed.length p.c3,.slice B m.ac.length d,.int .i64 m.tk]] V)) ((S.out.alloc' 109 [.int .i64 (-1),.int .i64 0,.bool false] rfl htb).pick [1,0,2,3] (by decide)) fun W10 S' => ?_
       have S10 := Lib.hid S'.out
       clear S' S htb hln hce
       go_wp2_with (at_range; refine wpList_rangeR rfl _ 110 91 109 rfl S10.out Tryz.underlying110 rfl ?_)
       intro r cnt w11 S11
       have S12 : Hid (Sep w.heap.size w [eRng (keyC (K := m.ac.length)) veS nb r (fun u : CkK m.ac.length => (lkS (nowV m wd wd.length)) u.1) (fun u => (lkS (nowV m wd wd.length) u.1).isSome) cnt,eBlk tb 109 [.int .i64 ((allSp []).getD ⟨-1,0,false⟩).lo,.int .i64 ((allSp []).getD ⟨-1,0,false⟩).hi,.bool ((allSp []).getD ⟨-1,0,false⟩).en],eMc m q,eBlk mb 37 [.slice p.A1 m.a.al.length p.c1,.int .i64 m.a.n,.slice p.A2 m.a.mr.length p.c2,.slice p.A3 m.a.ed.length p.c3,.slice B m.ac.length d,.int .i64 m.tk]] w11) := S11
       clear S11 S10
       go_wp2_with fail
       try go_frame
       go_loopw [94] (fun _ wr => ∃ (left : CkK m.ac.length → Bool) (cnt : Nat) (D : List (Ck × Sp)),Hid (Done (nowV m wd wd.length) left D) ∧ Hid (Sep w.heap.size w [eRng (keyC (K := m.ac.length)) veS nb r (fun u : CkK m.ac.length => (lkS (nowV m wd wd.length)) u.1) left cnt,eBlk tb 109 [.int .i64 ((allSp D).getD ⟨-1,0,false⟩).lo,.int .i64 ((allSp D).getD ⟨-1,0,false⟩).hi,.bool ((allSp D).getD ⟨-1,0,false⟩).en],eMc m q,eBlk mb 37 [.slice p.A1 m.a.al.length p.c1,.int .i64 m.a.n,.slice p.A2 m.a.mr.length p.c2,.slice p.A3 m.a.ed.length p.c3,.slice B m.ac.length d,.int .i64 m.tk]] wr)) (fun _ wr => wr.rangeLeft nb r)
       case atStart => exact ⟨_,cnt,[],Done.start,S12.out⟩
       case round =>
        clear S12
        obtain ⟨left,cnt,D,DN,S⟩ := hrel
        have HCT : Hid (wr.rangeLeft nb r = cnt) := RngAt.left (S.out.get 0 rfl)
        go_wp2_with (at_next; refine wpList_nextR rfl _ rfl S.out rfl ?_ ?_)
        · intro hl0
          have HP := DN.out.perm (nowV_nd m wd wd.length) (fun y hy => (HOK.out _ (Nat.le_refl _) y hy).1.len) hl0
          have HA1 := allSp_perm HP
          obtain ⟨t,ht⟩ : ∃ t,allSp (nowV m wd wd.length) = some t := by
           cases h : allSp (nowV m wd wd.length) with
           | none => exact absurd (allSp_none.1 h) HNE.out
           | some t => exact ⟨t,rfl⟩
          have DV : Hid (durV m wd = (t.lo,if t.en then -1 else t.hi,true)) := by unfold durV; rw [ht]; rfl
          have S13 : Hid (Sep w.heap.size w [eBlk tb 109 [.int .i64 t.lo,.int .i64 t.hi,.bool t.en],eMc m q,eBlk mb 37 [.slice p.A1 m.a.al.length p.c1,.int .i64 m.a.n,.slice p.A2 m.a.mr.length p.c2,.slice p.A3 m.a.ed.length p.c3,.slice B m.ac.length d,.int .i64 m.tk]] wr) := by have h := S.out.drop1; rw [HA1,ht] at h; exact h
          clear S HCT HP HA1 ht
          have t0 := BlkAt.cell (S13.out.get 0 rfl) 0; have t1 := BlkAt.cell (S13.out.get 0 rfl) 1; have t2 := BlkAt.cell (S13.out.get 0 rfl) 2; simp only [List.getElem?_cons_succ,List.getElem?_cons_zero] at t0 t1 t2
          obtain ⟨te,hte⟩ : ∃ b,b = t.en := ⟨_,rfl⟩
          rw [← hte] at t2 DV
          clear hte
          cases te
          · go_upto_region 37 with fail
            go_quiet (fail)
            go_wp2_with fail
            refine bodyPost_ret (v := .tuple #[.int .i64 t.lo,.int .i64 t.hi,.bool true,.int .i64 0]) (by simp [results,Tryz.results23,go_sem]) rfl ?_
            exact ⟨_,_,_,_,rfl,S13.out.below.draws _,.inl ⟨HY.out,rfl,by rw [DV.out]; rfl⟩⟩
          · go_wp2_with fail
            refine bodyPost_ret (v := .tuple #[.int .i64 t.lo,.int .i64 (-1),.bool true,.int .i64 0]) (by simp [results,Tryz.results23,go_sem]) rfl ?_
            exact ⟨_,_,_,_,rfl,S13.out.below,.inl ⟨HY.out,rfl,by rw [DV.out]; rfl⟩⟩
        · intro kv vv w13 hmore
          obtain ⟨x,v,cnt',rfl,rfl,hlx,hfx,S13,hcl,hen⟩ := hmore
          have DN2 : Hid (Done (nowV m wd wd.length) (fun y => left y && !decide (y = x)) (D ++ [(x.1,v)])) := DN.out.next x hlx hfx
          have HD : Hid (∀ y,y ∈ D → SpOk m (4000 * (wd.length : Int)) y) := fun y hy => HOK.out _ (Nat.le_refl _) y ((lkS_mem (nowV_nd m wd wd.length)).1 (((DN.out.iff ⟨y.1,DN.out.len y hy⟩ y.2).1 hy).1))
          have HSN : Hid (allSp (D ++ [(x.1,v)]) = some (jn (allSp D) v)) := allSp_snoc D (x.1,v)
          unfold veS at hen
          have HCL := Lib.hid hcl
          have HX := Lib.hid hfx
          clear S DN hlx hfx hcl
          obtain ⟨vb,hvb⟩ : ∃ g,g = w13.heap.size := ⟨_,rfl⟩
          go_upto_region 32 with fail
          rw [← hvb]
          obtain ⟨o,ho⟩ : ∃ o,o = allSp D := ⟨_,rfl⟩
          rw [← ho] at S13 HSN
          have HO := Lib.hid ho
          clear ho hen
          cases o with
          | none =>
            simp only [Option.getD_none] at S13
            have HSN2 : Hid ((allSp (D ++ [(x.1,v)])).getD ⟨-1,0,false⟩ = v) := by rw [Hid,HSN.out]; rfl
            refine wp_world (fun V => Hid (Sep w.heap.size w [eBlk vb 109 [.int .i64 v.lo,.int .i64 v.hi,.bool v.en],eRng (keyC (K := m.ac.length)) veS nb r (fun u : CkK m.ac.length => (lkS (nowV m wd wd.length)) u.1) (fun y => left y && !decide (y = x)) cnt',eBlk tb 109 [.int .i64 (⟨-1,0,false⟩ : Sp).lo,.int .i64 (⟨-1,0,false⟩ : Sp).hi,.bool (⟨-1,0,false⟩ : Sp).en],eMc m q,eBlk mb 37 [.slice p.A1 m.a.al.length p.c1,.int .i64 m.a.n,.slice p.A2 m.a.mr.length p.c2,.slice p.A3 m.a.ed.length p.c3,.slice B m.ac.length d,.int .i64 m.tk]] V)) (S13.alloc' 109 [.int .i64 v.lo,.int .i64 v.hi,.bool v.en] rfl hvb) fun W14 S' => ?_
            have S14 := Lib.hid S'.out
            clear S' S13 hvb
            have v0 := BlkAt.cell (S14.out.get 0 rfl) 0; have v1 := BlkAt.cell (S14.out.get 0 rfl) 1; have v2 := BlkAt.cell (S14.out.get 0 rfl) 2; simp only [List.getElem?_cons_succ,List.getElem?_cons_zero] at v0 v1 v2
            have a0 := BlkAt.cell (S14.out.get 2 rfl) 0; have a1 := BlkAt.cell (S14.out.get 2 rfl) 1; have a2 := BlkAt.cell (S14.out.get 2 rfl) 2; simp only [List.getElem?_cons_succ,List.getElem?_cons_zero] at a0 a1 a2
            have af0 := BlkAt.free (S14.out.get 2 rfl) 0; have af1 := BlkAt.free (S14.out.get 2 rfl) 1; have af2 := BlkAt.free (S14.out.get 2 rfl) 2
            have S15 : Hid (Sep w.heap.size w [eBlk vb 109 [.int .i64 v.lo,.int .i64 v.hi,.bool v.en],eRng (keyC (K := m.ac.length)) veS nb r (fun u : CkK m.ac.length => (lkS (nowV m wd wd.length)) u.1) (fun y => left y && !decide (y = x)) cnt',eBlk tb 109 [.int .i64 ((allSp (D ++ [(x.1,v)])).getD ⟨-1,0,false⟩).lo,.int .i64 ((allSp (D ++ [(x.1,v)])).getD ⟨-1,0,false⟩).hi,.bool ((allSp (D ++ [(x.1,v)])).getD ⟨-1,0,false⟩).en],eMc m q,eBlk mb 37 [.slice p.A1 m.a.al.length p.c1,.int .i64 m.a.n,.slice p.A2 m.a.mr.length p.c2,.slice p.A3 m.a.ed.length p.c3,.slice B m.ac.length d,.int .i64 m.tk]] (((W14.setCell ⟨tb,0,none⟩ (.int .i64 v.lo)).setCell ⟨tb,1,none⟩ (.int .i64 v.hi)).setCell ⟨tb,2,none⟩ (.bool v.en))) := by rw [HSN2.out]; exact ((S14.out.set 2 rfl 0 _).set 2 rfl 1 _).set 2 rfl 2 _
            clear S14 HSN HSN2
            go_wp2_with fail
            go_roundw
            case rel => exact ⟨_,cnt',D ++ [(x.1,v)],DN2.out,S15.out.drop1⟩
            case measure =>
             have HL2 := Sep.rngLeft S15.out.drop1
             rw [HCT.out,HL2]
             exact HCL.out
          | some t =>
            simp only [Option.getD_some] at S13
            have hlo := (allSp_ok HD.out HO.out.symm).1.1
            have HSN2 : Hid ((allSp (D ++ [(x.1,v)])).getD ⟨-1,0,false⟩ = ⟨min t.lo v.lo,max t.hi v.hi,t.en || v.en⟩) := by rw [Hid,HSN.out]; rfl
            have hd0 : decide (t.lo < 0) = false := decide_eq_false (by omega)
            refine wp_world (fun V => Hid (Sep w.heap.size w [eBlk vb 109 [.int .i64 v.lo,.int .i64 v.hi,.bool v.en],eRng (keyC (K := m.ac.length)) veS nb r (fun u : CkK m.ac.length => (lkS (nowV m wd wd.length)) u.1) (fun y => left y && !decide (y = x)) cnt',eBlk tb 109 [.int .i64 t.lo,.int .i64 t.hi,.bool t.en],eMc m q,eBlk mb 37 [.slice p.A1 m.a.al.length p.c1,.int .i64 m.a.n,.slice p.A2 m.a.mr.length p.c2,.slice p.A3 m.a.ed.length p.c3,.slice B m.ac.length d,.int .i64 m.tk]] V)) (S13.alloc' 109 [.int .i64 v.lo,.int .i64 v.hi,.bool v.en] rfl hvb) fun W14 S' => ?_
            have S14 := Lib.hid S'.out
            clear S' S13 hvb hlo
            have v0 := BlkAt.cell (S14.out.get 0 rfl) 0; have v1 := BlkAt.cell (S14.out.get 0 rfl) 1; have v2 := BlkAt.cell (S14.out.get 0 rfl) 2; simp only [List.getElem?_cons_succ,List.getElem?_cons_zero] at v0 v1 v2
            have a0 := BlkAt.cell (S14.out.get 2 rfl) 0; have a1 := BlkAt.cell (S14.out.get 2 rfl) 1; have a2 := BlkAt.cell (S14.out.get 2 rfl) 2; simp only [List.getElem?_cons_succ,List.getElem?_cons_zero] at a0 a1 a2
            have af0 := BlkAt.free (S14.out.get 2 rfl) 0; have af1 := BlkAt.free (S14.out.get 2 rfl) 1; have af2 := BlkAt.free (S14.out.get 2 rfl) 2
            obtain ⟨lo,hlo⟩ : ∃ z,z = min t.lo v.lo := ⟨_,rfl⟩
            obtain ⟨hi',hhi⟩ : ∃ z,z = max t.hi v.hi := ⟨_,rfl⟩
            obtain ⟨te,hte⟩ : ∃ b,b = t.en := ⟨_,rfl⟩
            have S15 : Hid (Sep w.heap.size w [eBlk vb 109 [.int .i64 v.lo,.int .i64 v.hi,.bool v.en],eRng (keyC (K := m.ac.length)) veS nb r (fun u : CkK m.ac.length => (lkS (nowV m wd wd.length)) u.1) (fun y => left y && !decide (y = x)) cnt',eBlk tb 109 [.int .i64 ((allSp (D ++ [(x.1,v)])).getD ⟨-1,0,false⟩).lo,.int .i64 ((allSp (D ++ [(x.1,v)])).getD ⟨-1,0,false⟩).hi,.bool ((allSp (D ++ [(x.1,v)])).getD ⟨-1,0,false⟩).en],eMc m q,eBlk mb 37 [.slice p.A1 m.a.al.length p.c1,.int .i64 m.a.n,.slice p.A2 m.a.mr.length p.c2,.slice p.A3 m.a.ed.length p.c3,.slice B m.ac.length d,.int .i64 m.tk]] (((W14.setCell ⟨tb,0,none⟩ (.int .i64 lo)).setCell ⟨tb,1,none⟩ (.int .i64 hi')).setCell ⟨tb,2,none⟩ (.bool (te || v.en)))) := by rw [HSN2.out,hlo,hhi,hte]; exact ((S14.out.set 2 rfl 0 _).set 2 rfl 1 _).set 2 rfl 2 _
            have hm1 : (if t.lo < v.lo then t.lo else v.lo) = lo := by rw [hlo]; split <;> omega
            have hm2 : (if t.hi < v.hi then v.hi else t.hi) = hi' := by rw [hhi]; split <;> omega
            have hm3 : min t.lo v.lo = lo := hlo.symm
            have hm4 : max t.hi v.hi = hi' := hhi.symm
            rw [← hte] at a2
            clear S14 HSN HSN2 hlo hhi hte
            cases te
            · simp only [Bool.false_or] at S15
              go_wp2_with fail
              go_roundw
              case rel => exact ⟨_,cnt',D ++ [(x.1,v)],DN2.out,S15.out.drop1⟩
              case measure =>
               have HL2 := Sep.rngLeft S15.out.drop1
               rw [HCT.out,HL2]
               exact HCL.out
            · simp only [Bool.true_or] at S15
              go_wp2_with fail
              go_roundw
              case rel => exact ⟨_,cnt',D ++ [(x.1,v)],DN2.out,S15.out.drop1⟩
              case measure =>
               have HL2 := Sep.rngLeft S15.out.drop1
               rw [HCT.out,HL2]
               exact HCL.out
set_option maxHeartbeats 400000 in
theorem same44_c (A1 A2 : Option Addr) (c1 c2 : Nat) (l1 l2 : List Int) (w : World) (h1 : IntsAt w A1 l1) (h2 : IntsAt w A2 l2) (n1 : l1.length ≤ 140737488355328) (n2 : l2.length ≤ 140737488355328) :
 Calls Tryz.prog 51 #[.slice A1 l1.length c1,.slice A2 l2.length c2] w (Tells (l1 = l2) w) := by
 have H1 := Lib.hid h1
 have H2 := Lib.hid h2
 clear h1 h2
 by_cases hl : l1.length = l2.length
 · go_enter Tryz.func51,Tryz.ntmps51
   have HL := Lib.hid hl
   rw [← hl]
   clear hl n2
   go_wp2
   go_loopw [5] (fun i wr => ∃ k : Nat,k ≤ l1.length ∧ i = .int .i64 k ∧ Hid (Below w.heap.size w wr) ∧ Hid (l1.take k = l2.take k)) (fun i _ => l1.length - (intOf i).toNat)
   case atStart => exact ⟨0,by omega,rfl,Below.refl _ _,rfl⟩
   case round =>
    obtain ⟨k,hk,rfl,BW,HN⟩ := hrel
    by_cases hlt : k < l1.length
    · obtain ⟨b,off,x,rfl,hb,hx,e0⟩ := IntsAt.at (H1.out.below IntE.stays BW.out) hlt
      obtain ⟨b2,off2,y,rfl,hb2,hy,g0⟩ := IntsAt.at (H2.out.below IntE.stays BW.out) (HL.out ▸ hlt)
      have HX := Lib.hid hx
      have HY := Lib.hid hy
      clear hx hy
      by_cases hxy : x = y
      · subst hxy
        go_wp2_with fail
        go_quiet (fail)
        go_wp2
        go_roundw
        case rel => exact ⟨k + 1,by omega,by go_num,BW.out.draws _,Lib.hid (by rw [List.take_add_one,List.take_add_one,HN.out,HX.out,HY.out])⟩
        case measure => simp [intOf]; omega
      · have hne : (x == y) = false := by simpa using hxy
        go_wp2_with fail
        go_quiet (fail)
        go_wp2
        go_ret
        exact Tells.no (fun h => by subst h; have := HX.out; rw [HY.out] at this; cases this; exact hxy rfl) (BW.out.draws _)
    · obtain rfl : k = l1.length := by omega
      go_wp2
      go_ret
      exact Tells.yes (by have := HN.out; rw [List.take_length,HL.out,List.take_length] at this; exact this) BW.out
 · have hne : ((l1.length : Int) == (l2.length : Int)) = false := by rw [beq_eq_false_iff_ne]; omega
   go_enter Tryz.func51,Tryz.ntmps51
   go_wp2
   go_ret
   exact Tells.no (fun h => hl (by rw [h])) (Below.refl _ _)
def mEx (lower : Int) : Md := ⟨⟨[0,1],2,[0],[⟨0,0,1⟩,⟨1,1,0⟩]⟩,[⟨0,0,-1⟩,⟨1,lower,3⟩],2⟩
def GivesE44 (lower : Int) (w : World) (e : Ending) (w' : World) : Prop := ∃ (X1 X2 X3 X4 : Option Addr),e = .returned (.agg ((mEx lower).cells ⟨⟨X1,2,X2,1,X3,2⟩,X4,2⟩).toArray) ∧ Hid (Sep w.heap.size w [eInts [0,1] (.slice X1 2 2),eInts [0] (.slice X2 1 1),eEds (mEx lower).a.ed (.slice X3 2 2),eOwn Ac.cells 3 44 (mEx lower).ac (.slice X4 2 2)] w')
set_option maxHeartbeats 4000000 in
theorem example44_c (lower : Int) (w : World) : Calls Tryz.prog 50 #[.int .i64 lower] w (GivesE44 lower w) := by
 go_enter Tryz.func50,Tryz.ntmps50
 obtain ⟨rb,hrb⟩ : ∃ g,g = w.heap.size := ⟨_,rfl⟩
 go_upto_region 1 with fail
 rw [← hrb]
 refine wp_world (fun W => Sep w.heap.size w [eBlk rb 37 [.slice none 0 0,.int .i64 0,.slice none 0 0,.slice none 0 0,.slice none 0 0,.int .i64 0]] W) ((Sep.here w).alloc' _ [_,_,_,_,_,_] rfl hrb) fun W S => ?_
 clear hrb
 obtain ⟨g1,h1⟩ : ∃ g,g = W.heap.size := ⟨_,rfl⟩
 obtain ⟨g2,h2⟩ : ∃ g,g = W.heap.size + 1 := ⟨_,rfl⟩
 obtain ⟨g3,h3⟩ : ∃ g,g = W.heap.size + 1 + 1 := ⟨_,rfl⟩
 obtain ⟨g4,h4⟩ : ∃ g,g = W.heap.size + 1 + 1 + 1 := ⟨_,rfl⟩
 have S1 := (S.alloc' 3 [.int .i64 0,.int .i64 1] rfl (g := g1) h1).own 0 rfl encI 1 [0,1] rfl (fun _ => rfl) (by decide)
 have S2 := (S1.alloc' 3 [.int .i64 0] rfl (g := g2) (by simp [h2])).own 0 rfl encI 1 [0] rfl (fun _ => rfl) (by decide)
 have S3 := (S2.alloc' 76 [.int .i64 0,.int .i64 0,.int .i64 1,.int .i64 1,.int .i64 1,.int .i64 0] rfl (g := g3) (by simp [h3])).own 0 rfl Ed.cells 3 (mEx lower).a.ed rfl (fun _ => rfl) (by simp [mEx,maxLen])
 have S4 := (S3.alloc' 44 [.int .i64 0,.int .i64 0,.int .i64 (-1),.int .i64 1,.int .i64 lower,.int .i64 3] rfl (g := g4) (by simp [h4])).own 0 rfl Ac.cells 3 (mEx lower).ac rfl (fun _ => rfl) (by simp [mEx,maxLen])
 have c0 := BlkAt.cell (S4.get 4 rfl) 0; have c1 := BlkAt.cell (S4.get 4 rfl) 1; have c2 := BlkAt.cell (S4.get 4 rfl) 2; have c3 := BlkAt.cell (S4.get 4 rfl) 3; have c4 := BlkAt.cell (S4.get 4 rfl) 4; have c5 := BlkAt.cell (S4.get 4 rfl) 5
 have f0 := BlkAt.free (S4.get 4 rfl) 0; have f1 := BlkAt.free (S4.get 4 rfl) 1; have f2 := BlkAt.free (S4.get 4 rfl) 2; have f3 := BlkAt.free (S4.get 4 rfl) 3; have f4 := BlkAt.free (S4.get 4 rfl) 4; have f5 := BlkAt.free (S4.get 4 rfl) 5
 simp only [List.getElem?_cons_succ,List.getElem?_cons_zero] at c0 c1 c2 c3 c4 c5
 have S5 := Lib.hid ((((((S4.set 4 rfl 0 (.slice (some ⟨g1,0,none⟩) 2 2)).set 4 rfl 1 (.int .i64 2)).set 4 rfl 2 (.slice (some ⟨g2,0,none⟩) 1 1)).set 4 rfl 3 (.slice (some ⟨g3,0,none⟩) 2 2)).set 4 rfl 4 (.slice (some ⟨g4,0,none⟩) 2 2)).set 4 rfl 5 (.int .i64 2))
 have t0 := BlkAt.cell (S5.out.get 4 rfl) 0; have t1 := BlkAt.cell (S5.out.get 4 rfl) 1; have t2 := BlkAt.cell (S5.out.get 4 rfl) 2; have t3 := BlkAt.cell (S5.out.get 4 rfl) 3; have t4 := BlkAt.cell (S5.out.get 4 rfl) 4; have t5 := BlkAt.cell (S5.out.get 4 rfl) 5
 simp only [List.set_cons_succ,List.set_cons_zero,List.getElem?_cons_succ,List.getElem?_cons_zero] at t0 t1 t2 t3 t4 t5
 subst h1; subst h2; subst h3; subst h4
 clear S S1 S2 S3 S4
 go_wp2_with fail
 refine bodyPost_ret (v := .agg ((mEx lower).cells ⟨⟨some ⟨W.heap.size,0,none⟩,2,some ⟨W.heap.size + 1,0,none⟩,1,some ⟨W.heap.size + 1 + 1,0,none⟩,2⟩,some ⟨W.heap.size + 1 + 1 + 1,0,none⟩,2⟩).toArray) (by simp [results,Tryz.results50,go_sem,Md.cells,mEx, *]) rfl ?_
 exact ⟨_,_,_,_,rfl,S5.out.pick [3,2,1,0] (by decide)⟩
noncomputable def pthF (a : Au) (pm : Ed → Bool) (s t : Int) : Bool × List Int :=
 @dite _ (∃ l,LeastW (LeadsTo (stpP a pm) s ev32 (fun v => 0 ≤ v ∧ decide (v = t) = true)) l) (Classical.propDecidable _) (fun h => (true,Classical.choose h)) (fun _ => (false,[]))
theorem pthF_of {a : Au} {pm : Ed → Bool} {s t : Int} {f : Bool} {l : List Int} (h : PthW a pm s (fun v => decide (v = t)) f l) : pthF a pm s t = (f,l) := by
 unfold pthF
 rcases h with ⟨rfl,h⟩ | ⟨rfl,rfl,h⟩
 · rw [dif_pos ⟨l,h⟩]
   rw [(Classical.choose_spec (⟨l,h⟩ : ∃ l,LeastW (LeadsTo (stpP a pm) s ev32 (fun v => 0 ≤ v ∧ decide (v = t) = true)) l)).uniq h]
 · rw [dif_neg]
   rintro ⟨l,hl⟩
   exact h l hl.is
noncomputable def rdS (a : Au) (pm : Ed → Bool) (s : Int) (r : Bool × List Int) (x : Ed) : Bool × List Int :=
 if pm x = true then (if (pthF a pm x.dst s).1 = true ∧ (r.1 = false ∨ (pthF a pm x.dst s).2.length + 1 < r.2.length) then (true,x.ev :: (pthF a pm x.dst s).2) else r) else r
noncomputable def rdF (a : Au) (pm : Ed → Bool) (s : Int) (L : List Ed) : Bool × List Int := L.foldl (rdS a pm s) (false,[])
theorem rdF_next (a : Au) (pm : Ed → Bool) (s : Int) {L : List Ed} {k : Nat} {x : Ed} (h : L[k]? = some x) : rdF a pm s (L.take (k + 1)) = rdS a pm s (rdF a pm s (L.take k)) x := by
 unfold rdF
 rw [List.take_add_one,h,Option.toList_some,List.foldl_append]; rfl
theorem rdS_off {a : Au} {pm : Ed → Bool} {s : Int} {r : Bool × List Int} {x : Ed} (h : pm x = false) : rdS a pm s r x = r := by unfold rdS; rw [if_neg (by simp [h])]
theorem rdS_no {a : Au} {pm : Ed → Bool} {s : Int} {r : Bool × List Int} {x : Ed} (h : pm x = true) {l : List Int} (hp : pthF a pm x.dst s = (false,l)) : rdS a pm s r x = r := by unfold rdS; rw [if_pos h,if_neg (by rw [hp]; simp)]
theorem rdS_keep {a : Au} {pm : Ed → Bool} {s : Int} {b : List Int} {x : Ed} (h : pm x = true) {l : List Int} (hp : pthF a pm x.dst s = (true,l)) (hk : ¬ l.length + 1 < b.length) : rdS a pm s (true,b) x = (true,b) := by unfold rdS; rw [if_pos h,if_neg (by rw [hp]; simp; omega)]
theorem rdS_take {a : Au} {pm : Ed → Bool} {s : Int} {r : Bool × List Int} {x : Ed} (h : pm x = true) {l : List Int} (hp : pthF a pm x.dst s = (true,l)) (hk : r.1 = false ∨ l.length + 1 < r.2.length) : rdS a pm s r x = (true,x.ev :: l) := by unfold rdS; rw [if_pos h,if_pos ⟨by rw [hp],by rw [hp]; exact hk⟩,hp]
noncomputable def rch (a : Au) (s : Int) : Bool := @decide (Fwd a (fun _ => true) [0] s) (Classical.propDecidable _)
theorem rch_iff {a : Au} {s : Int} : rch a s = true ↔ Fwd a (fun _ => true) [0] s := by unfold rch; exact @decide_eq_true_iff _ (Classical.propDecidable _)
noncomputable def cycAt (a : Au) (pm : Ed → Bool) : Nat → Option Nat
 | 0 => none
 | k + 1 => match cycAt a pm k with
   | some s => some s
   | none => if rch a k = true ∧ (rdF a pm k (outOf a.ed k)).1 = true then some k else none
theorem cycAt_skip {a : Au} {pm : Ed → Bool} {k : Nat} (h : cycAt a pm k = none) (hk : ¬ (rch a k = true ∧ (rdF a pm k (outOf a.ed k)).1 = true)) : cycAt a pm (k + 1) = none := by simp only [cycAt,h,if_neg hk]
theorem cycAt_hit {a : Au} {pm : Ed → Bool} {k : Nat} (h : cycAt a pm k = none) (hk : rch a k = true ∧ (rdF a pm k (outOf a.ed k)).1 = true) {N : Nat} (hN : k < N) : cycAt a pm N = some k := by
 induction N with
 | zero => omega
 | succ N ih =>
   by_cases e : k = N
   · subst e; simp only [cycAt,h,if_pos hk]
   · simp only [cycAt,ih (by omega)]
noncomputable def cycV (a : Au) (pm : Ed → Bool) : List Int × List Int × Bool := match cycAt a pm a.n.toNat with
 | some s => ((pthF a (fun _ => true) 0 s).2,(rdF a pm s (outOf a.ed s)).2,true)
 | none => ([],[],false)
section
attribute [local go_sem] Oper.semAt_some

set_option maxHeartbeats 1000000 in
theorem round1_c (t s b : Nat) (w : World) (hb : BlkAt w b 3 [.int .i64 (s : Int)]) :
 Calls Tryz.prog 101 #[.int .i64 (t : Int),.pointer (some ⟨b,0,none⟩)] w (Ret (.bool (decide ((t : Int) = (s : Int)))) w) := by
 have x0 := hb.cell 0
 simp only [List.getElem?_cons_zero] at x0
 clear hb
 go_enter Tryz.func101,Tryz.ntmps101
 go_wp2_with fail
 go_ret
 exact ⟨by simp only [beq_dec]; rfl,Below.refl _ _⟩
def GivesRd (a : Au) (pm : Ed → Bool) (s : Nat) (w : World) (e : Ending) (w' : World) : Prop := ∃ (A : Option Addr) (c : Nat) (l : List Int) (f : Bool),e = .returned (.tuple #[.slice A l.length c,.bool f]) ∧ Hid (IntsAt w' A l) ∧ Below w.heap.size w w' ∧ Hid ((f,l) = rdF a pm s (outOf a.ed s)) ∧ l.length ≤ 4097
theorem intsE_one {n : Nat} {w0 w : World} {es : List Ent} (S : Sep n w0 es w) {g : Nat} (x : Int) (hg : g = w.heap.size) : Sep n w0 (eInts [x] (.slice (some ⟨g,0,none⟩) 1 1) :: es) (w.alloc (.cells #[.int .i64 x] 3)) := by
 have h := (S.alloc' 3 [.int .i64 x] rfl hg).own 0 rfl encI 1 [x] (by simp [encI]) (fun _ => rfl) (by simp [maxLen])
 exact h
set_option maxHeartbeats 8000000 in
theorem round_c (a : Au) (p : AuP) (g0 : Nat) (s : Nat) (gp : Nat) (lbp : Array Value) (ep : ∀ args w,(callFunc gp args).run Tryz.prog w = .ok (.enter gp args) w) (pm : Ed → Bool) (W0 w : World)
 (hr : a.Right) (hA : EdsAt W0 p.A3 a.ed) (hc : a.ed.length ≤ p.c3) (hs : (s : Int) < a.n) (hg : Sep W0.heap.size W0 [eBlk g0 3 (mkI (a.n.toNat + 1) fun j => (fstV a.ed j : Int))] w)
 (hp : ∀ V x,Below w.heap.size w V → x ∈ a.ed → Calls Tryz.prog gp (#[.agg x.cells.toArray] ++ lbp) V (Ret (.bool (pm x)) V)) :
 Calls Tryz.prog 77 #[.agg (grCells a p g0).toArray,.int .i64 (s : Int),.func (.func gp) #[] lbp] w (GivesRd a pm s w) := by
 have h0 := hr.n0
 have hn := hr.n1
 have HR := Lib.hid hr
 have HA := Lib.hid hA
 have HCP := Lib.hid hc
 have HG := Lib.hid hg
 have HP := Lib.hid hp
 obtain ⟨al,n,mr,ed⟩ := a
 obtain ⟨A1,c1,A2,c2,A3,c3⟩ := p
 obtain ⟨N,rfl⟩ := Int.eq_ofNat_of_zero_le h0
 dsimp only [grCells] at HR HA HCP HG HP hn hs h0 ⊢
 rw [Int.toNat_natCast] at HG ⊢
 have hsN : s < N := by omega
 have SK : Hid (Sep W0.heap.size W0 [eBlk g0 3 (mkI (N + 1) fun j => (fstV ed j : Int)),eKeep w W0.heap.size g0] w) := HG.out.keep
 clear hr hA hc hg hp h0 hs
 refine calls_marks Tryz.func77 rfl ?_
 simp only [Tryz.ntmps77,List.size_toArray,List.length_cons,List.length_nil,Nat.reduceAdd,Nat.reduceSub,Array.replicate_succ,Array.replicate_zero,List.push_toArray,List.append_toArray,List.nil_append,List.cons_append]
 obtain ⟨gg,hgg⟩ : ∃ g,g = w.heap.size := ⟨_,rfl⟩
 obtain ⟨ss,hss⟩ : ∃ g,g = w.heap.size + 1 := ⟨_,rfl⟩
 obtain ⟨pb,hpb⟩ : ∃ g,g = w.heap.size + 2 := ⟨_,rfl⟩
 go_upto_region 1 with fail
 rw [← hpb,← hss,← hgg]
 refine wp_world (fun W => Sep W0.heap.size W0 [eBlk pb 143 [.func (.func gp) #[] lbp],eBlk ss 3 [.int .i64 (s : Int)],eBlk gg 140 [.slice A1 al.length c1,.int .i64 (N : Int),.slice A2 mr.length c2,.slice A3 ed.length c3,.slice (some ⟨g0,0,none⟩) (N + 1) (N + 1)],eBlk g0 3 (mkI (N + 1) fun j => (fstV ed j : Int)),eKeep w W0.heap.size g0] W) (((SK.out.alloc' 140 [.slice A1 al.length c1,.int .i64 (N : Int),.slice A2 mr.length c2,.slice A3 ed.length c3,.slice (some ⟨g0,0,none⟩) (N + 1) (N + 1)] rfl hgg).alloc' 3 [.int .i64 (s : Int)] rfl (by rw [hss]; simp)).alloc' 143 [.func (.func gp) #[] lbp] rfl (by rw [hpb]; simp)) fun W1 S' => ?_
 have S1 := Lib.hid S'
 clear S' SK hgg hss hpb
 obtain ⟨bb,hbb⟩ : ∃ g,g = W1.heap.size := ⟨_,rfl⟩
 go_upto_region 2 with fail
 rw [← hbb]
 refine wp_world (fun W => Sep W0.heap.size W0 [eBlk bb 31 [.slice none 0 0],eBlk pb 143 [.func (.func gp) #[] lbp],eBlk ss 3 [.int .i64 (s : Int)],eBlk gg 140 [.slice A1 al.length c1,.int .i64 (N : Int),.slice A2 mr.length c2,.slice A3 ed.length c3,.slice (some ⟨g0,0,none⟩) (N + 1) (N + 1)],eBlk g0 3 (mkI (N + 1) fun j => (fstV ed j : Int)),eKeep w W0.heap.size g0] W) (S1.out.alloc' 31 [.slice none 0 0] rfl hbb) fun W2 S' => ?_
 have S2 := Lib.hid S'
 clear S' S1 hbb
 obtain ⟨fb,hfb⟩ : ∃ g,g = W2.heap.size := ⟨_,rfl⟩
 go_upto_region 3 with fail
 rw [← hfb]
 refine wp_world (fun W => Sep W0.heap.size W0 ([eBlk fb 4 [.bool false],eBlk bb 31 [.slice none 0 0],eInts [] (.slice none 0 0),eBlk pb 143 [.func (.func gp) #[] lbp],eBlk ss 3 [.int .i64 (s : Int)],eBlk gg 140 [.slice A1 al.length c1,.int .i64 (N : Int),.slice A2 mr.length c2,.slice A3 ed.length c3,.slice (some ⟨g0,0,none⟩) (N + 1) (N + 1)],eBlk g0 3 (mkI (N + 1) fun j => (fstV ed j : Int)),eKeep w W0.heap.size g0] ++ mksE []) W) (((S2.out.alloc' 4 [.bool false] rfl hfb).nilOwn encI 1 3).pick [1,2,0,3,4,5,6,7] (by decide)) fun W3 S' => ?_
 have S3 := Lib.hid S'
 clear S' S2 hfb
 have b0 := BlkAt.cell (S3.out.get 5 rfl) 0; have b1 := BlkAt.cell (S3.out.get 5 rfl) 1; have b2 := BlkAt.cell (S3.out.get 5 rfl) 2; have b3 := BlkAt.cell (S3.out.get 5 rfl) 3; have b4 := BlkAt.cell (S3.out.get 5 rfl) 4
 have sc := qkC S3.out 4 rfl 0 rfl
 simp only [List.getElem?_cons_succ,List.getElem?_cons_zero] at b0 b1 b2 b3 b4
 have ES := Lib.hid (edgesSeq_c ⟨al,(N : Int),mr,ed⟩ ⟨A1,c1,A2,c2,A3,c3⟩ g0 s W3)
 dsimp only [grCells] at ES
 rw [Int.toNat_natCast] at ES
 go_wp2_with fail
 refine ES.out.mono ?_
 rintro e w4 ⟨gx,bs,rfl,TT⟩
 have S4 : Hid (Sep W0.heap.size W0 ([eBlk bs 3 [.int .i64 (s : Int)],eBlk gx 140 [.slice A1 al.length c1,.int .i64 (N : Int),.slice A2 mr.length c2,.slice A3 ed.length c3,.slice (some ⟨g0,0,none⟩) (N + 1) (N + 1)],eBlk fb 4 [.bool false],eBlk bb 31 [.slice none 0 0],eInts [] (.slice none 0 0),eBlk pb 143 [.func (.func gp) #[] lbp],eBlk ss 3 [.int .i64 (s : Int)],eBlk gg 140 [.slice A1 al.length c1,.int .i64 (N : Int),.slice A2 mr.length c2,.slice A3 ed.length c3,.slice (some ⟨g0,0,none⟩) (N + 1) (N + 1)],eBlk g0 3 (mkI (N + 1) fun j => (fstV ed j : Int)),eKeep w W0.heap.size g0] ++ mksE []) w4) := S3.out.news TT.out
 clear TT S3 ES b0 b1 b2 b3 b4 sc
 go_wp2_with fail
 obtain ⟨RR,hRR⟩ : ∃ RR : Nat → List Ent → Prop,Hid (∀ t es,RR t es ↔ (∃ (f : Bool) (b : List Int) (AB : Option Addr) (cB : Nat),Hid ((f,b) = rdF ⟨al,(N : Int),mr,ed⟩ pm s ((outOf ed s).take t)) ∧ b.length ≤ 4097 ∧ es = [eBlk bs 3 [.int .i64 (s : Int)],eBlk gx 140 [.slice A1 al.length c1,.int .i64 (N : Int),.slice A2 mr.length c2,.slice A3 ed.length c3,.slice (some ⟨g0,0,none⟩) (N + 1) (N + 1)],eBlk fb 4 [.bool f],eBlk bb 31 [.slice AB b.length cB],eInts b (.slice AB b.length cB),eBlk pb 143 [.func (.func gp) #[] lbp],eBlk ss 3 [.int .i64 (s : Int)],eBlk gg 140 [.slice A1 al.length c1,.int .i64 (N : Int),.slice A2 mr.length c2,.slice A3 ed.length c3,.slice (some ⟨g0,0,none⟩) (N + 1) (N + 1)],eBlk g0 3 (mkI (N + 1) fun j => (fstV ed j : Int)),eKeep w W0.heap.size g0] ++ mksE [])) := ⟨_,fun _ _ => Iff.rfl⟩
 refine wp_rangeFunc_upd1 (enc := fun x : Ed => .agg x.cells.toArray) (rfl) (fun _ _ => rfl) (T := fun _ => []) 0 (edges_iter ⟨al,(N : Int),mr,ed⟩ ⟨A1,c1,A2,c2,A3,c3⟩ g0 gx bs s W0.heap.size 0 W0 _ HR.out HA.out rfl hsN HCP.out) RR
  (fun _ _ => False) S4.out ((hRR.out _ _).2 ⟨false,[],none,0,rfl,by simp,rfl⟩) (fun k es hes => ⟨trivial,?_⟩)
  (fun a x b => { tmps := (a.tmps.setIfInBounds 16 (.agg x.cells.toArray)).setIfInBounds 10 (.pointer (some ⟨b,0,none⟩)),defers := [] }) (fun x b => [eBlk b 76 x.cells]) ?_ ?_ ?_ ?_
 · obtain ⟨f,b,AB,cB,_,_,rfl⟩ := (hRR.out _ _).1 hes
   intro e he
   simp only [List.mem_cons,List.not_mem_nil,or_false] at he
   rcases he with rfl | rfl | rfl
   · exact List.mem_of_getElem? (i := 0) rfl
   · exact List.mem_of_getElem? (i := 1) rfl
   · exact List.mem_of_getElem? (i := 8) rfl
 · clear S4
   rintro l eL eD k x es1 W KK hx hes SW hK
   obtain ⟨f,b,AB,cB,_,_,rfl⟩ := (hRR.out _ _).1 hes
   have HK2 := Lib.hid hK
   have S1 := Lib.hid SW
   clear hK SW
   simp only [List.setIfInBounds_toArray,List.set_cons_succ,List.set_cons_zero,Ed.cells]
   gi_wp2
   exact HK2.out W.heap.size _ (Sep.third (S1.out.alloc 76 _))
 · clear S4
   rintro l eL eD t x es1 bx W hx hes SW
   obtain ⟨f,b,AB,cB,B,hbl,rfl⟩ := (hRR.out _ _).1 hes
   clear hes
   have hm := (mem_outOf.1 (List.mem_of_getElem? hx)).1
   have hxr := edge_next HR.out hm
   have BN : Hid (rdF ⟨al,(N : Int),mr,ed⟩ pm s ((outOf ed s).take (t + 1)) = rdS ⟨al,(N : Int),mr,ed⟩ pm s (f,b) x) := by rw [Hid,rdF_next ⟨al,(N : Int),mr,ed⟩ pm s hx,← B.out]
   obtain ⟨ys,ye,d'⟩ := x
   obtain ⟨d,hd⟩ := Int.eq_ofNat_of_zero_le hxr.2.2.2.1
   dsimp only at hd
   subst hd
   have hdN : d < N := by have := hxr.2.2.2.2; dsimp only at this; omega
   have HM := Lib.hid hm
   have S1 : Hid (Sep W0.heap.size W0 ([eL,eD,eBlk bx 76 [.int .i64 ys,.int .i64 ye,.int .i64 (d : Int)],eBlk bs 3 [.int .i64 (s : Int)],eBlk gx 140 [.slice A1 al.length c1,.int .i64 (N : Int),.slice A2 mr.length c2,.slice A3 ed.length c3,.slice (some ⟨g0,0,none⟩) (N + 1) (N + 1)],eBlk fb 4 [.bool f],eBlk bb 31 [.slice AB b.length cB],eInts b (.slice AB b.length cB),eBlk pb 143 [.func (.func gp) #[] lbp],eBlk ss 3 [.int .i64 (s : Int)],eBlk gg 140 [.slice A1 al.length c1,.int .i64 (N : Int),.slice A2 mr.length c2,.slice A3 ed.length c3,.slice (some ⟨g0,0,none⟩) (N + 1) (N + 1)],eBlk g0 3 (mkI (N + 1) fun j => (fstV ed j : Int)),eKeep w W0.heap.size g0] ++ mksE []) W) := SW
   clear SW hx hm hxr B
   have BK := Lib.hid (HG.out.kept S1.out (i := 11) (j := 12) rfl rfl)
   obtain ⟨pv,hpv⟩ : ∃ z,z = pm ⟨ys,ye,(d : Int)⟩ := ⟨_,rfl⟩
   have CP := Lib.hid (HP.out W ⟨ys,ye,(d : Int)⟩ BK.out HM.out)
   rw [← hpv] at CP
   have HPV := Lib.hid hpv
   have b0 := BlkAt.cell (S1.out.get 2 rfl) 0; have b1 := BlkAt.cell (S1.out.get 2 rfl) 1; have b2 := BlkAt.cell (S1.out.get 2 rfl) 2
   have pbc := qkC S1.out 8 rfl 0 rfl
   simp only [List.getElem?_cons_succ,List.getElem?_cons_zero] at b0 b1 b2
   clear hpv
   dsimp only [Ed.cells]
   simp only [List.setIfInBounds_toArray,List.set_cons_succ,List.set_cons_zero]
   gi_wp2
   refine ⟨trivial,rfl,(CallsIn.inRound l (callsIn_wide.2 CP.out)).mono ?_⟩
   rintro e w5 ⟨rfl,hb⟩
   have S2 := Lib.hid (S1.out.next hb)
   clear hb CP S1 BK b0 b1 b2 pbc
   cases pv
   case false =>
    have B2 : Hid ((f,b) = rdF ⟨al,(N : Int),mr,ed⟩ pm s ((outOf ed s).take (t + 1))) := by rw [Hid,BN.out,rdS_off HPV.out.symm]
    gi_wp2
    exact ⟨_,(hRR.out _ _).2 ⟨f,b,AB,cB,B2.out,hbl,rfl⟩,S2.out.drop3⟩
   case true =>
    have PC := Lib.hid (path_c ⟨al,(N : Int),mr,ed⟩ ⟨A1,c1,A2,c2,A3,c3⟩ g0 d 101 gp #[.pointer (some ⟨ss,0,none⟩)] lbp (fun args w => by rfl) ep (fun v => decide (v = (s : Int))) pm W0 w5 HR.out HA.out HCP.out (by simp only; omega) (S2.out.pick [11] (by decide))
     (fun V t hb _ => round1_c t s ss V ((S2.out.get 9 rfl).below hb (S2.out.get 9 rfl).lt)) (fun V x hb hx => HP.out V x (HG.out.kept (S2.out.next hb) (i := 11) (j := 12) rfl rfl) hx))
    dsimp only [grCells] at PC
    rw [Int.toNat_natCast] at PC
    have g0c := BlkAt.cell (S2.out.get 10 rfl) 0; have g1c := BlkAt.cell (S2.out.get 10 rfl) 1; have g2c := BlkAt.cell (S2.out.get 10 rfl) 2; have g3c := BlkAt.cell (S2.out.get 10 rfl) 3; have g4c := BlkAt.cell (S2.out.get 10 rfl) 4
    have b0 := BlkAt.cell (S2.out.get 2 rfl) 0; have b1 := BlkAt.cell (S2.out.get 2 rfl) 1; have b2 := BlkAt.cell (S2.out.get 2 rfl) 2
    have pbc := qkC S2.out 8 rfl 0 rfl
    simp only [List.getElem?_cons_succ,List.getElem?_cons_zero] at b0 b1 b2 g0c g1c g2c g3c g4c
    gi_wp2
    refine ⟨trivial,rfl,(CallsIn.inRound l (callsIn_wide.2 PC.out)).mono ?_⟩
    rintro e w6 ⟨A7,c7,l7,f7,rfl,hl7,hb,hd7,hlen⟩
    have HL7 := Lib.hid hl7.out
    have HPF : Hid (pthF ⟨al,(N : Int),mr,ed⟩ pm (d : Int) (s : Int) = (f7,l7)) := pthF_of hd7.out
    have S3 := Lib.hid (S2.out.next hb)
    clear hb hd7 hl7 PC S2 b0 b1 b2 pbc g0c g1c g2c g3c g4c
    have fbc := qkC S3.out 5 rfl 0 rfl
    have bbc := qkC S3.out 6 rfl 0 rfl
    have hwr : IntKind.i64.wrap ((l7.length : Int) + 1) = (l7.length : Int) + 1 := IntWalk.i64_in _ (by omega)
    have KEEP : Hid (∀ b',rdS ⟨al,(N : Int),mr,ed⟩ pm s (f,b) ⟨ys,ye,(d : Int)⟩ = (f,b') → b' = b → (f,b) = rdF ⟨al,(N : Int),mr,ed⟩ pm s ((outOf ed s).take (t + 1))) := by
     intro b' h1 h2
     rw [BN.out,h1,h2]
    cases f7
    case false =>
     have B2 : Hid ((f,b) = rdF ⟨al,(N : Int),mr,ed⟩ pm s ((outOf ed s).take (t + 1))) := KEEP.out b (rdS_no HPV.out.symm HPF.out) rfl
     gi_wp2
     all_goals first | exact ⟨_,(hRR.out _ _).2 ⟨f,b,AB,cB,B2.out,hbl,rfl⟩,S3.out.drop3⟩ | (rename_i h h2; exact absurd h (by simp [undef]))
    case true =>
     have TAKE : Hid (f = false ∨ l7.length + 1 < b.length → ((true,ye :: l7) = rdF ⟨al,(N : Int),mr,ed⟩ pm s ((outOf ed s).take (t + 1)))) := fun h => by rw [BN.out,rdS_take HPV.out.symm HPF.out h]
     obtain ⟨go,hgo⟩ : ∃ z : Bool,z = (!f || decide ((l7.length : Int) + 1 < (b.length : Int))) := ⟨_,rfl⟩
     have HGO := Lib.hid hgo
     clear hgo
     cases go
     case false =>
      have hf : f = true := by have hgo := HGO.out; cases f <;> simp at hgo <;> rfl
      subst hf
      have hd2 : decide ((l7.length : Int) + 1 < (b.length : Int)) = false := by simpa using HGO.out.symm
      have B2 : Hid ((true,b) = rdF ⟨al,(N : Int),mr,ed⟩ pm s ((outOf ed s).take (t + 1))) := KEEP.out b (rdS_keep HPV.out.symm HPF.out (by have := of_decide_eq_false hd2; omega)) rfl
      have HD2 := Lib.hid hd2
      clear HGO hd2
      have hd2 := HD2.out
      gi_wp2
      all_goals first | exact ⟨_,(hRR.out _ _).2 ⟨true,b,AB,cB,B2.out,hbl,rfl⟩,S3.out.drop3⟩ | (rename_i h h2; exact absurd h (by simp [undef]))
     case true =>
      have B2 : Hid ((true,ye :: l7) = rdF ⟨al,(N : Int),mr,ed⟩ pm s ((outOf ed s).take (t + 1))) := TAKE.out (by
       cases f
       · exact .inl rfl
       · right
         have : decide ((l7.length : Int) + 1 < (b.length : Int)) = true := by simpa using HGO.out.symm
         have := of_decide_eq_true this
         omega)
      clear KEEP TAKE HPF HPV BN
      gi_upto_region 7 with fail
      gi_cut [42] from 30 (fun v wx => v = .bool true ∧ wx = w6)
      case first =>
       cases f
       case false =>
        clear HGO
        gi_wp2
        gi_meet
        exact ⟨rfl,rfl⟩
       case true =>
        have hd2 : decide ((l7.length : Int) + 1 < (b.length : Int)) = true := by simpa using HGO.out.symm
        clear HGO
        gi_wp2
        gi_meet
        exact ⟨rfl,rfl⟩
      case rest =>
       obtain ⟨rfl,rfl⟩ := hcut
       clear HGO
       gi_upto_region 8 with fail
       refine wpIn_world (fun V => Sep W0.heap.size W0 ([eL,eD,eBlk bx 76 [.int .i64 ys,.int .i64 ye,.int .i64 (d : Int)],eBlk bs 3 [.int .i64 (s : Int)],eBlk gx 140 [.slice A1 al.length c1,.int .i64 (N : Int),.slice A2 mr.length c2,.slice A3 ed.length c3,.slice (some ⟨g0,0,none⟩) (N + 1) (N + 1)],eBlk fb 4 [.bool f],eBlk bb 31 [.slice AB b.length cB],eInts b (.slice AB b.length cB),eBlk pb 143 [.func (.func gp) #[] lbp],eBlk ss 3 [.int .i64 (s : Int)],eBlk gg 140 [.slice A1 al.length c1,.int .i64 (N : Int),.slice A2 mr.length c2,.slice A3 ed.length c3,.slice (some ⟨g0,0,none⟩) (N + 1) (N + 1)],eBlk g0 3 (mkI (N + 1) fun j => (fstV ed j : Int)),eKeep w W0.heap.size g0] ++ mksE []) V ∧ IntsAt V A7 l7) ⟨S3.out,HL7.out⟩ fun W6 S' => ?_
       have S4 := Lib.hid S'.1
       have HL6 := Lib.hid S'.2
       clear S' S3 HL7 fbc bbc hwr
       have HLA : Hid (IntsAt (W6.alloc (.cells #[.int .i64 ye] 3)) A7 l7) := HL6.out.below IntE.stays (Below.new W6 _)
       have b1 := qkC S4.out 2 rfl 1 rfl
       refine wpIn_region_list (by kernel_rfl) (fun _ _ h => h) ?_
       go_wp2_with (at_builtin; refine wpList_appendIn rfl _ _ 31 rfl (intsE_one S4.out ye rfl) 0 rfl Tryz.underlying31 (by kernel_rfl) rfl A7 c7 l7 rfl HLA.out (by simp; omega) ?_)
       intro A' c' w7 S5 _
       obtain ⟨n1,hn1⟩ : ∃ n,n = 1 + l7.length := ⟨_,rfl⟩
       rw [← hn1] at S5 ⊢
       have HN1 := Lib.hid hn1
       clear hn1
       have S6 : Hid (Sep W0.heap.size W0 ([eL,eD,eBlk bx 76 [.int .i64 ys,.int .i64 ye,.int .i64 (d : Int)],eBlk bs 3 [.int .i64 (s : Int)],eBlk gx 140 [.slice A1 al.length c1,.int .i64 (N : Int),.slice A2 mr.length c2,.slice A3 ed.length c3,.slice (some ⟨g0,0,none⟩) (N + 1) (N + 1)],eBlk fb 4 [.bool f],eBlk bb 31 [.slice AB b.length cB],eInts (ye :: l7) (.slice A' n1 c'),eBlk pb 143 [.func (.func gp) #[] lbp],eBlk ss 3 [.int .i64 (s : Int)],eBlk gg 140 [.slice A1 al.length c1,.int .i64 (N : Int),.slice A2 mr.length c2,.slice A3 ed.length c3,.slice (some ⟨g0,0,none⟩) (N + 1) (N + 1)],eBlk g0 3 (mkI (N + 1) fun j => (fstV ed j : Int)),eKeep w W0.heap.size g0] ++ mksE []) w7) := S5.pick [1,2,3,4,5,6,7,0,9,10,11,12,13] (by decide)
       clear S5 b1
       have bbf := BlkAt.free (S6.out.get 6 rfl) 0
       have bbc := qkC S6.out 6 rfl 0 rfl
       have S7 : Hid (Sep W0.heap.size W0 ([eL,eD,eBlk bx 76 [.int .i64 ys,.int .i64 ye,.int .i64 (d : Int)],eBlk bs 3 [.int .i64 (s : Int)],eBlk gx 140 [.slice A1 al.length c1,.int .i64 (N : Int),.slice A2 mr.length c2,.slice A3 ed.length c3,.slice (some ⟨g0,0,none⟩) (N + 1) (N + 1)],eBlk fb 4 [.bool f],eBlk bb 31 [.slice A' n1 c'],eInts (ye :: l7) (.slice A' n1 c'),eBlk pb 143 [.func (.func gp) #[] lbp],eBlk ss 3 [.int .i64 (s : Int)],eBlk gg 140 [.slice A1 al.length c1,.int .i64 (N : Int),.slice A2 mr.length c2,.slice A3 ed.length c3,.slice (some ⟨g0,0,none⟩) (N + 1) (N + 1)],eBlk g0 3 (mkI (N + 1) fun j => (fstV ed j : Int)),eKeep w W0.heap.size g0] ++ mksE []) (w7.setCell ⟨bb,0,none⟩ (.slice A' n1 c'))) := S6.out.set 6 rfl 0 (.slice A' n1 c')
       have fbf := BlkAt.free (S7.out.get 5 rfl) 0
       have fbc := qkC S7.out 5 rfl 0 rfl
       have S8 : Hid (Sep W0.heap.size W0 ([eL,eD,eBlk bx 76 [.int .i64 ys,.int .i64 ye,.int .i64 (d : Int)],eBlk bs 3 [.int .i64 (s : Int)],eBlk gx 140 [.slice A1 al.length c1,.int .i64 (N : Int),.slice A2 mr.length c2,.slice A3 ed.length c3,.slice (some ⟨g0,0,none⟩) (N + 1) (N + 1)],eBlk fb 4 [.bool true],eBlk bb 31 [.slice A' (ye :: l7).length c'],eInts (ye :: l7) (.slice A' (ye :: l7).length c'),eBlk pb 143 [.func (.func gp) #[] lbp],eBlk ss 3 [.int .i64 (s : Int)],eBlk gg 140 [.slice A1 al.length c1,.int .i64 (N : Int),.slice A2 mr.length c2,.slice A3 ed.length c3,.slice (some ⟨g0,0,none⟩) (N + 1) (N + 1)],eBlk g0 3 (mkI (N + 1) fun j => (fstV ed j : Int)),eKeep w W0.heap.size g0] ++ mksE []) ((w7.setCell ⟨bb,0,none⟩ (.slice A' n1 c')).setCell ⟨fb,0,none⟩ (.bool true))) := by
        have h := S7.out.set 5 rfl 0 (.bool true)
        have e : n1 = (ye :: l7).length := by have := HN1.out; simp; omega
        rw [e] at h ⊢
        exact h
       clear S7 S6
       go_wp2_with fail
       gi_wp2
       exact ⟨_,(hRR.out _ _).2 ⟨true,ye :: l7,A',c',B2.out,by simp; omega,rfl⟩,S8.out.drop3⟩
 · clear S4
   rintro D t es1 W hD hes SW
   obtain ⟨f,b,AB,cB,B,hbl,rfl⟩ := (hRR.out _ _).1 hes
   clear hes
   subst hD
   have S1 : Hid (Sep W0.heap.size W0 ([eBlk fb 4 [.bool f],eBlk bb 31 [.slice AB b.length cB],eInts b (.slice AB b.length cB),eBlk pb 143 [.func (.func gp) #[] lbp],eBlk ss 3 [.int .i64 (s : Int)],eBlk gg 140 [.slice A1 al.length c1,.int .i64 (N : Int),.slice A2 mr.length c2,.slice A3 ed.length c3,.slice (some ⟨g0,0,none⟩) (N + 1) (N + 1)],eBlk g0 3 (mkI (N + 1) fun j => (fstV ed j : Int)),eKeep w W0.heap.size g0] ++ mksE [D]) W) := (Sep.marked SW).drop1.drop1
   clear SW
   have fbc := qkC S1.out 0 rfl 0 rfl
   have bbc := qkC S1.out 1 rfl 0 rfl
   have BF : Hid ((f,b) = rdF ⟨al,(N : Int),mr,ed⟩ pm s (outOf ed s)) := by
    have := B.out
    rw [List.take_length] at this
    exact this
   clear B
   change Exit.inBlock 0 _ _ { tmps := _,defers := mksD [D] } W
   go_upto_region 9 with fail
   go_quiet (fail)
   go_wp2_with fail
   refine ret_marks [D] (S1.out.draws _) fun w' S5 => ?_
   have BK := HG.out.kept S5 (i := 6) (j := 7) rfl rfl
   refine ⟨.tuple #[.slice AB b.length cB,.bool f],by simp [results,Tryz.results77,go_sem],?_⟩
   exact ⟨AB,cB,b,f,rfl,S5.ints 2 rfl,BK,BF.out,hbl⟩
 · intro D c es1 W h
   exact h.elim
end
end Go.Proofs.YtimdepdbcdbikaaGreat
