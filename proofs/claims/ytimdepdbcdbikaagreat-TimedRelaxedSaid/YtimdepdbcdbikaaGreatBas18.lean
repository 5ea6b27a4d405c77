/-
  timed: lists of states; timed.Timed.
  timed.join: a span is added to those of a clock.
  machine.onward: the spans that ticks and an event lead to.
  Plain: the spans of timed.Duration stay small, and lie at clocks of the model.
-/
import Derived.Test.YtimdepdbcdbikaaGreatBas17
import Derived.BigQuiet
import Derived.Deep.MidRow
import Derived.Test.YtimdepdbcdbikaaGreatBas15
import Derived.Test.YtimdepdbcdbikaaGreatBas16
import Derived.StillTailTactics
set_option linter.unusedSimpArgs false
set_option linter.unusedVariables false
namespace Go.Proofs.YtimdepdbcdbikaaGreat
open Go.RowKit
set_option maxRecDepth 100000
structure SV where
 c : Ck
 A : Option Addr
 cp : Nat
def encS (x : SV) : List Value := [.int .i64 x.c.1,.slice x.A x.c.2.length x.cp]
theorem encS_one (x : SV) : ∀ u ∈ encS x,u.oneCell' = true := fun u hu => by
 simp only [encS,List.mem_cons,List.not_mem_nil,or_false] at hu
 rcases hu with rfl | rfl <;> rfl
theorem stInfo : (Tryz.prog.info? 52).map (fun i => (i.zero,i.size,i.bytes)) = some (some (.agg #[.int .i64 0,.slice none 0 0]),2,32) := by kernel_rfl
abbrev eSts (l : List SV) (v : Value) : Ent := eOwn encS 2 52 l v
def SV.blk (x : SV) : List Nat := if x.c.2 = [] then [] else x.A.toList.map Addr.block
theorem IntsAt.turn {w w' : World} {A : Option Addr} {l : List Int} (h : IntsAt w A l) (hg : l ≠ [] → ∀ b,b ∈ A.toList.map Addr.block → b < w'.heap.size → w'.heap[b]? = w.heap[b]?) (hl : l ≠ [] → ∀ b,b ∈ A.toList.map Addr.block → b < w'.heap.size) : IntsAt w' A l := by
 intro hne
 obtain ⟨b,off,hA,hb,hx⟩ := h hne
 have hm : b ∈ A.toList.map Addr.block := by subst hA; simp
 have h1 := hl hne b hm
 have h2 := hg hne b hm h1
 refine ⟨b,off,hA,h1,fun i x hi => ?_⟩
 obtain ⟨vs,h3,h4,h5⟩ := hx i x hi
 refine ⟨vs,h3,h4,fun j v hj => ?_⟩
 have := h5 j v hj
 simp only [World.cell?] at this ⊢
 rw [h2]; exact this
def eTm (l : List SV) : Ent where
 foot := l.flatMap SV.blk
 ok w := ∀ x,x ∈ l → IntsAt w x.A x.c.2
 lt w h k hk := by
  obtain ⟨x,hx,hk⟩ := List.mem_flatMap.1 hk
  unfold SV.blk at hk
  split at hk
  · cases hk
  · rename_i hne
    obtain ⟨b,off,hA,hb,_⟩ := h x hx hne
    rw [hA] at hk
    simp at hk
    subst hk; exact hb
 turn w w' h hg := fun x hx => by
  have key : x.c.2 ≠ [] → ∀ b,b ∈ x.A.toList.map Addr.block → w'.heap[b]? = w.heap[b]? ∧ b < w.heap.size := fun hne b hb => by
   refine ⟨hg b (List.mem_flatMap.2 ⟨x,hx,by unfold SV.blk; rw [if_neg hne]; exact hb⟩),?_⟩
   obtain ⟨b',off,hA,hb',_⟩ := h x hx hne
   rw [hA] at hb
   simp at hb
   subst hb; exact hb'
  refine IntsAt.turn (h x hx) (fun hne b hb _ => (key hne b hb).1) (fun hne b hb => ?_)
  obtain ⟨h1,h2⟩ := key hne b hb
  rw [Array.getElem?_eq_getElem h2] at h1
  exact (Array.getElem?_eq_some_iff.1 h1).1
theorem Sep.tmIn {n : Nat} {w0 w : World} {es : List Ent} {c : Ck} {A : Option Addr} {cp : Nat} {l : List SV} (S : Sep n w0 (eInts c.2 (.slice A c.2.length cp) :: eTm l :: es) w) : Sep n w0 (eTm (l ++ [⟨c,A,cp⟩]) :: es) w := by
 have hi := S.ints 0 rfl
 refine Sep.as S.join 0 rfl (eTm (l ++ [⟨c,A,cp⟩])) (fun h => ?_) (fun x hx => ?_)
 · intro x hx
   rcases List.mem_append.1 hx with g | g
   · exact h.2 x g
   · simp at g; subst g; exact hi
 · simp only [eTm,List.flatMap_append,List.mem_append] at hx
   show x ∈ (eInts c.2 _).foot ++ (eTm l).foot
   rw [List.mem_append]
   rcases hx with g | g
   · exact .inr g
   · refine .inl ?_
     simp only [List.flatMap_cons,List.flatMap_nil,List.append_nil,SV.blk] at g
     split at g
     · cases g
     · cases A with
       | none => simp at g
       | some a => simpa [eOwn,Value.ownBlock] using g
theorem Sep.tmNil {n : Nat} {w0 w : World} {es : List Ent} (S : Sep n w0 es w) : Sep n w0 (eTm [] :: es) w :=
 S.new1 (Below.refl _ _) (eTm []) (by intro x hx; cases hx) (by simp [eTm])
def GivesTd (m : Md) (w : World) (e : Ending) (w' : World) : Prop := ∃ (fs : List Ck) (ed : List Ed) (p : AuP) (AS : Option Addr) (cS : Nat) (l : List SV),e = .returned (.tuple #[(tAu m fs ed).val p,.slice AS l.length cS,.int .i64 0]) ∧ Hid (Sep w.heap.size w (eAu (tAu m fs ed) p ++ [eSts l (.slice AS l.length cS),eTm l]) w') ∧ Hid (l.map SV.c = fs) ∧ Hid (Ufd m fs ed) ∧ Hid (fs.length ≤ 4000)
set_option maxHeartbeats 8000000 in
theorem timed_c (m : Md) (P : MdP) (w : World) (hm : m.Ok) (hA : Md.At w m P) (hn : 0 < m.a.n) (hf : Few m) (hc : m.a.al.length ≤ P.p.c1) :
 Calls Tryz.prog 21 #[.agg (m.cells P).toArray] w (GivesTd m w) := by
 have HM := Lib.hid hm
 have HA := Lib.hid hA
 have HF := Lib.hid hf
 have HC := Lib.hid hc
 have HNP := Lib.hid hn
 have h32 := hm.len32
 clear hm hA hf hc hn
 go_enter Tryz.func21,Tryz.ntmps21
 obtain ⟨mb,hmb⟩ : ∃ g,g = w.heap.size := ⟨_,rfl⟩
 obtain ⟨rb,hrb⟩ : ∃ g,g = w.heap.size + 1 := ⟨_,rfl⟩
 go_upto_region 1 with fail
 rw [← hrb,← hmb]
 refine wp_world (fun W => Sep w.heap.size w [eBlk rb 34 [.slice none 0 0,.int .i64 0,.slice none 0 0,.slice none 0 0],eBlk mb 37 [.slice P.p.A1 m.a.al.length P.p.c1,.int .i64 m.a.n,.slice P.p.A2 m.a.mr.length P.p.c2,.slice P.p.A3 m.a.ed.length P.p.c3,.slice P.B m.ac.length P.d,.int .i64 m.tk]] W) (((Sep.here w).alloc' _ [_,_,_,_,_,_] rfl hmb).alloc' _ [_,_,_,_] rfl (by rw [hrb]; simp)) fun W S => ?_
 have S0 := Lib.hid S
 clear S hmb hrb
 have b0 := BlkAt.cell (S0.out.get 1 rfl) 0; have b1 := BlkAt.cell (S0.out.get 1 rfl) 1; have b2 := BlkAt.cell (S0.out.get 1 rfl) 2; have b3 := BlkAt.cell (S0.out.get 1 rfl) 3; have b4 := BlkAt.cell (S0.out.get 1 rfl) 4; have b5 := BlkAt.cell (S0.out.get 1 rfl) 5; simp only [List.getElem?_cons_succ,List.getElem?_cons_zero] at b0 b1 b2 b3 b4 b5
 have CC := Lib.hid (check44_c m P W HM.out (HA.out.below S0.out.below))
 dsimp only [Md.cells] at CC
 go_wp2_with fail
 refine CC.out.mono ?_
 rintro e w2 ⟨rfl,hb⟩
 have S2 := Lib.hid (S0.out.next hb)
 clear CC hb S0 b0 b1 b2 b3 b4 b5
 have b0 := BlkAt.cell (S2.out.get 1 rfl) 0; have b1 := BlkAt.cell (S2.out.get 1 rfl) 1; have b2 := BlkAt.cell (S2.out.get 1 rfl) 2; have b3 := BlkAt.cell (S2.out.get 1 rfl) 3; have b4 := BlkAt.cell (S2.out.get 1 rfl) 4; have b5 := BlkAt.cell (S2.out.get 1 rfl) 5; simp only [List.getElem?_cons_succ,List.getElem?_cons_zero] at b0 b1 b2 b3 b4 b5
 have NC := Lib.hid (newMachine_c m P w2 HM.out (HA.out.below S2.out.below))
 dsimp only [Md.cells] at NC
 go_wp2_with fail
 refine NC.out.mono ?_
 rintro e w3 ⟨q,rfl,hqP,hqL,TT⟩
 have S3 := qkN S2.out TT.out
 have HCQ : Hid (m.a.al.length ≤ q.P.p.c1) := by rw [hqP]; exact HC.out
 have HQ : Hid (∀ V,Below w.heap.size w V → (eMc m q).ok V → Mch V m q) := fun V hb h => Mch.of h (by rw [hqP]; exact HA.out.below hb) hqL
 clear NC TT S2 b0 b1 b2 b3 b4 b5 hqP hqL
 go_wp2_with fail
 refine (unfold_c m q w3 HM.out (HQ.out _ S3.out.below (S3.out.get 0 rfl)) HNP.out HF.out HCQ.out).mono ?_
 rintro e w4 ⟨fs,ed,p,AF,cF,rfl,TT,HU,HL⟩
 have S4 := qkN S3.out TT.out
 have HIS : Hid (∀ c,c ∈ fs → m.Is c) := HU.out.is
 clear TT S3
 dsimp only [Au.val]
 have r0 := BlkAt.cell (S4.out.get 5 rfl) 0; have r1 := BlkAt.cell (S4.out.get 5 rfl) 1; have r2 := BlkAt.cell (S4.out.get 5 rfl) 2; have r3 := BlkAt.cell (S4.out.get 5 rfl) 3; simp only [List.getElem?_cons_succ,List.getElem?_cons_zero] at r0 r1 r2 r3
 have f0 := BlkAt.free (S4.out.get 5 rfl) 0; have f1 := BlkAt.free (S4.out.get 5 rfl) 1; have f2 := BlkAt.free (S4.out.get 5 rfl) 2; have f3 := BlkAt.free (S4.out.get 5 rfl) 3
 have S5 : Hid (Sep w.heap.size w [eInts (tAu m fs ed).al (.slice p.A1 (tAu m fs ed).al.length p.c1),eInts (tAu m fs ed).mr (.slice p.A2 (tAu m fs ed).mr.length p.c2),eEds (tAu m fs ed).ed (.slice p.A3 (tAu m fs ed).ed.length p.c3),eCks fs (.slice AF fs.length cF),eMc m q,eBlk rb 34 [.slice p.A1 (tAu m fs ed).al.length p.c1,.int .i64 (tAu m fs ed).n,.slice p.A2 (tAu m fs ed).mr.length p.c2,.slice p.A3 (tAu m fs ed).ed.length p.c3],eBlk mb 37 [.slice P.p.A1 m.a.al.length P.p.c1,.int .i64 m.a.n,.slice P.p.A2 m.a.mr.length P.p.c2,.slice P.p.A3 m.a.ed.length P.p.c3,.slice P.B m.ac.length P.d,.int .i64 m.tk]] ((((w4.setCell ⟨rb,0,none⟩ (.slice p.A1 (tAu m fs ed).al.length p.c1)).setCell ⟨rb,1,none⟩ (.int .i64 (tAu m fs ed).n)).setCell ⟨rb,2,none⟩ (.slice p.A2 (tAu m fs ed).mr.length p.c2)).setCell ⟨rb,3,none⟩ (.slice p.A3 (tAu m fs ed).ed.length p.c3))) := (((S4.out.set 5 rfl 0 _).set 5 rfl 1 _).set 5 rfl 2 _).set 5 rfl 3 _
 go_upto_region 8 with fail
 refine wp_world (fun V => Sep w.heap.size w [eInts (tAu m fs ed).al (.slice p.A1 (tAu m fs ed).al.length p.c1),eInts (tAu m fs ed).mr (.slice p.A2 (tAu m fs ed).mr.length p.c2),eEds (tAu m fs ed).ed (.slice p.A3 (tAu m fs ed).ed.length p.c3),eCks fs (.slice AF fs.length cF),eMc m q,eSts [] (.slice none 0 0),eTm [],eBlk rb 34 [.slice p.A1 (tAu m fs ed).al.length p.c1,.int .i64 (tAu m fs ed).n,.slice p.A2 (tAu m fs ed).mr.length p.c2,.slice p.A3 (tAu m fs ed).ed.length p.c3],eBlk mb 37 [.slice P.p.A1 m.a.al.length P.p.c1,.int .i64 m.a.n,.slice P.p.A2 m.a.mr.length P.p.c2,.slice P.p.A3 m.a.ed.length P.p.c3,.slice P.B m.ac.length P.d,.int .i64 m.tk]] V) (((S5.out.nilOwn encS 2 52).tmNil).pick [2,3,4,5,6,1,0,7,8] (by decide)) fun W6 S => ?_
 have S6 := Lib.hid S
 have hfl := HL.out
 clear S S5 S4 r0 r1 r2 r3 f0 f1 f2 f3
 go_wp2_with fail
 go_loopw [30,3] (fun vi vl wr => ∃ (k : Nat) (l : List SV) (AS : Option Addr) (cS : Nat),vi = .int .i64 (k : Int) ∧ vl = .slice AS l.length cS ∧ k ≤ fs.length ∧ Hid (l.map SV.c = fs.take k) ∧ Hid (Sep w.heap.size w [eInts (tAu m fs ed).al (.slice p.A1 (tAu m fs ed).al.length p.c1),eInts (tAu m fs ed).mr (.slice p.A2 (tAu m fs ed).mr.length p.c2),eEds (tAu m fs ed).ed (.slice p.A3 (tAu m fs ed).ed.length p.c3),eCks fs (.slice AF fs.length cF),eMc m q,eSts l (.slice AS l.length cS),eTm l,eBlk rb 34 [.slice p.A1 (tAu m fs ed).al.length p.c1,.int .i64 (tAu m fs ed).n,.slice p.A2 (tAu m fs ed).mr.length p.c2,.slice p.A3 (tAu m fs ed).ed.length p.c3],eBlk mb 37 [.slice P.p.A1 m.a.al.length P.p.c1,.int .i64 m.a.n,.slice P.p.A2 m.a.mr.length P.p.c2,.slice P.p.A3 m.a.ed.length P.p.c3,.slice P.B m.ac.length P.d,.int .i64 m.tk]] wr)) (fun vi _ _ => fs.length - (intOf vi).toNat)
 case atStart => exact ⟨0,[],none,0,rfl,rfl,Nat.zero_le _,rfl,S6.out⟩
 case round =>
  clear S6
  obtain ⟨k,l,AS,cS,rfl,rfl,hk,HLF,S⟩ := hrel
  by_cases hlt : k < fs.length
  · obtain ⟨c,hc⟩ : ∃ c,fs[k]? = some c := ⟨_,List.getElem?_eq_getElem hlt⟩
    have hcis := HIS.out c (List.mem_of_getElem? hc)
    have hc32 : c.2.length ≤ 32 := by rw [hcis.len]; exact h32
    obtain ⟨bf,of,hAF,hrg⟩ := CksAt.at (Own.reads encC_len (S.out.get 3 rfl)) hc hc32
    subst hAF
    have HCI := Lib.hid hcis
    have HLF2 : Hid (∀ A cp,(l ++ [(⟨c,A,cp⟩ : SV)]).map SV.c = fs.take (k + 1)) := fun A cp => by rw [List.map_append,HLF.out,List.take_add_one,hc]; rfl
    have hll : l.length ≤ 4000 := by have := congrArg List.length HLF.out; simp at this; omega
    have HLL := Lib.hid hll
    clear hc hcis hll
    obtain ⟨cb,hcb⟩ : ∃ g,g = wr.heap.size := ⟨_,rfl⟩
    go_upto_region 11 with (first | refine wpList_load_mid rfl 91 _ rfl bf (of + k * 33) rfl (ckC c) _ hrg Tryz.underlying91 rfl (by rw [ck_info,ckC_len hc32]) ?_ | refine wpList_ckNew c hc32 rfl _ _ rfl _ rfl rfl (by kernel_rfl) ?_)
    rw [← hcb]
    refine wp_world (fun V => Hid (Sep w.heap.size w [eBlk cb 91 (ckC c),eInts (tAu m fs ed).al (.slice p.A1 (tAu m fs ed).al.length p.c1),eInts (tAu m fs ed).mr (.slice p.A2 (tAu m fs ed).mr.length p.c2),eEds (tAu m fs ed).ed (.slice p.A3 (tAu m fs ed).ed.length p.c3),eCks fs (.slice (some ⟨bf,of,none⟩) fs.length cF),eMc m q,eSts l (.slice AS l.length cS),eTm l,eBlk rb 34 [.slice p.A1 (tAu m fs ed).al.length p.c1,.int .i64 (tAu m fs ed).n,.slice p.A2 (tAu m fs ed).mr.length p.c2,.slice p.A3 (tAu m fs ed).ed.length p.c3],eBlk mb 37 [.slice P.p.A1 m.a.al.length P.p.c1,.int .i64 m.a.n,.slice P.p.A2 m.a.mr.length P.p.c2,.slice P.p.A3 m.a.ed.length P.p.c3,.slice P.B m.ac.length P.d,.int .i64 m.tk]] V)) (S.out.alloc' _ (ckC c) rfl hcb) fun W7 S7 => ?_
    clear S hrg hcb
    have SC := Lib.hid (state_c m q c W7 HM.out (HQ.out _ S7.out.below (S7.out.get 5 rfl)) HCI.out)
    go_wp2_with (refine wpList_ckLoad c cb (S7.out.get 0 rfl) hc32 rfl _ rfl rfl ?_)
    refine SC.out.mono ?_
    rintro e w8 ⟨A,cp,rfl,TT⟩
    have S8 := Lib.hid (S7.out.news TT.out)
    have hll := HLL.out
    clear TT SC S7
    go_wp2_with (at_builtin; refine wpList_pushS rfl _ _ 62 rfl (S8.out.alloc 52 [.int .i64 c.1,.slice A c.2.length cp]) 8 rfl Tryz.underlying62 _ 32 stInfo rfl (by decide) rfl (⟨c,A,cp⟩ : SV) _ rfl rfl (fun k u hk => (BlkAt.cell (BlkAt.new _ _ _) k).trans hk) (encS_one _) (by omega) (by decide) ?_)
    intro A1 c1 w9 S9 _
    have S10 : Hid (Sep w.heap.size w [eInts (tAu m fs ed).al (.slice p.A1 (tAu m fs ed).al.length p.c1),eInts (tAu m fs ed).mr (.slice p.A2 (tAu m fs ed).mr.length p.c2),eEds (tAu m fs ed).ed (.slice p.A3 (tAu m fs ed).ed.length p.c3),eCks fs (.slice (some ⟨bf,of,none⟩) fs.length cF),eMc m q,eSts (l ++ [⟨c,A,cp⟩]) (.slice A1 (l.length + 1) c1),eTm (l ++ [⟨c,A,cp⟩]),eBlk rb 34 [.slice p.A1 (tAu m fs ed).al.length p.c1,.int .i64 (tAu m fs ed).n,.slice p.A2 (tAu m fs ed).mr.length p.c2,.slice p.A3 (tAu m fs ed).ed.length p.c3],eBlk mb 37 [.slice P.p.A1 m.a.al.length P.p.c1,.int .i64 m.a.n,.slice P.p.A2 m.a.mr.length P.p.c2,.slice P.p.A3 m.a.ed.length P.p.c3,.slice P.B m.ac.length P.d,.int .i64 m.tk]] w9) := by
     have h := S9.pick [1,9,3,4,5,6,7,8,10,11] (by decide)
     exact (Sep.tmIn h).pick [1,2,3,4,5,6,0,7,8] (by decide)
    clear S9 S8 hll
    go_wp2_with fail
    go_roundw
    case rel => exact ⟨k + 1,l ++ [(⟨c,A,cp⟩ : SV)],A1,c1,by go_num,by simp,by omega,HLF2.out A cp,by have h := S10.out; rw [show (l ++ [(⟨c,A,cp⟩ : SV)]).length = l.length + 1 by simp]; exact h⟩
    case measure => simp [intOf]; omega
  · obtain rfl : k = fs.length := by omega
    have HLL : Hid (l.map SV.c = fs) := by have := HLF.out; rw [List.take_length] at this; exact this
    have r0 := BlkAt.cell (S.out.get 7 rfl) 0; have r1 := BlkAt.cell (S.out.get 7 rfl) 1; have r2 := BlkAt.cell (S.out.get 7 rfl) 2; have r3 := BlkAt.cell (S.out.get 7 rfl) 3; simp only [List.getElem?_cons_succ,List.getElem?_cons_zero] at r0 r1 r2 r3
    have f0 := BlkAt.free (S.out.get 7 rfl) 0; have f1 := BlkAt.free (S.out.get 7 rfl) 1; have f2 := BlkAt.free (S.out.get 7 rfl) 2; have f3 := BlkAt.free (S.out.get 7 rfl) 3
    have S5 : Hid (Sep w.heap.size w [eInts (tAu m fs ed).al (.slice p.A1 (tAu m fs ed).al.length p.c1),eInts (tAu m fs ed).mr (.slice p.A2 (tAu m fs ed).mr.length p.c2),eEds (tAu m fs ed).ed (.slice p.A3 (tAu m fs ed).ed.length p.c3),eCks fs (.slice AF fs.length cF),eMc m q,eSts l (.slice AS l.length cS),eTm l,eBlk rb 34 [.slice p.A1 (tAu m fs ed).al.length p.c1,.int .i64 (tAu m fs ed).n,.slice p.A2 (tAu m fs ed).mr.length p.c2,.slice p.A3 (tAu m fs ed).ed.length p.c3],eBlk mb 37 [.slice P.p.A1 m.a.al.length P.p.c1,.int .i64 m.a.n,.slice P.p.A2 m.a.mr.length P.p.c2,.slice P.p.A3 m.a.ed.length P.p.c3,.slice P.B m.ac.length P.d,.int .i64 m.tk]] ((((wr.setCell ⟨rb,0,none⟩ (.slice p.A1 (tAu m fs ed).al.length p.c1)).setCell ⟨rb,1,none⟩ (.int .i64 (tAu m fs ed).n)).setCell ⟨rb,2,none⟩ (.slice p.A2 (tAu m fs ed).mr.length p.c2)).setCell ⟨rb,3,none⟩ (.slice p.A3 (tAu m fs ed).ed.length p.c3))) := (((S.out.set 7 rfl 0 _).set 7 rfl 1 _).set 7 rfl 2 _).set 7 rfl 3 _
    have q0 := BlkAt.cell (S5.out.get 7 rfl) 0; have q1 := BlkAt.cell (S5.out.get 7 rfl) 1; have q2 := BlkAt.cell (S5.out.get 7 rfl) 2; have q3 := BlkAt.cell (S5.out.get 7 rfl) 3; simp only [List.getElem?_cons_succ,List.getElem?_cons_zero] at q0 q1 q2 q3
    clear S HLF
    go_wp2_with fail
    refine bodyPost_ret (v := .tuple #[.agg #[.slice p.A1 (tAu m fs ed).al.length p.c1,.int .i64 (tAu m fs ed).n,.slice p.A2 (tAu m fs ed).mr.length p.c2,.slice p.A3 (tAu m fs ed).ed.length p.c3],.slice AS l.length cS,.int .i64 0]) (by simp [results,Tryz.results21,go_sem, *]) rfl ?_
    exact ⟨fs,ed,p,AS,cS,l,rfl,S5.out.pick [0,1,2,5,6] (by decide),HLL.out,HU.out,HL.out⟩
def veS (s : Sp) : Value := .agg #[.int .i64 s.lo,.int .i64 s.hi,.bool s.en]
theorem zeroS (w : World) : (zeroValue 109).run Tryz.prog w = .ok (veS ⟨0,0,false⟩) w := by kernel_rfl
theorem lookS {K : Nat} (hK : K ≤ 32) {n b : Nat} {w0 w : World} {es : List Ent} {F : SpF} (S : Sep n w0 es w) (i : Nat) (hi : es[i]? = some (eMapR (keyC (K := K)) veS b (fun u : CkK K => F u.1))) (c : Ck) (hc : c.2.length = K) :
 (Instr.lookup 110 (.map (some b)) (.agg (ckC c).toArray) true).run Tryz.prog w = .ok (.tuple #[veS ((F c).getD ⟨0,0,false⟩),.bool (F c).isSome]) w :=
 (MapG.look (okC hK) Tryz.underlying110 zeroS (MapR.g (S.get i hi)) ⟨c,hc⟩).1
theorem Sep.upS {K b n : Nat} {w0 w : World} {es : List Ent} {F : SpF} {c : Ck} {hc : c.2.length = K} {s z : Sp} (hz : z = jn (F c) s) (S : Sep n w0 (eMapR (keyC (K := K)) veS b (fun u : CkK K => if u = ⟨c,hc⟩ then some z else F u.1) :: es) w) :
 Sep n w0 (eMapR (keyC (K := K)) veS b (fun u : CkK K => jnF F (c,s) u.1) :: es) w :=
 S.mapRAs fun x => by
  unfold jnF
  obtain ⟨x,hx⟩ := x
  by_cases h : x = c
  · subst h
    simp [hz]
  · simp [h]
set_option maxHeartbeats 4000000 in
theorem join_c {K : Nat} (hK : K ≤ 32) (nb : Nat) (F : SpF) (c : Ck) (s : Sp) (n : Nat) (w0 w : World) (es : List Ent) (hc : c.2.length = K) (S : (Sep n w0 (eMapR (keyC (K := K)) veS nb (fun u : CkK K => F u.1) :: es) w)) :
 Calls Tryz.prog 72 #[.map (some nb),.agg (ckC c).toArray,.agg #[.int .i64 s.lo,.int .i64 s.hi,.bool s.en]] w (fun e w' => (∃ u,e = .returned u) ∧ Hid (Sep n w0 (eMapR (keyC (K := K)) veS nb (fun u : CkK K => jnF F (c,s) u.1) :: es) w')) := by
 have hc32 : c.2.length ≤ 32 := by omega
 have S0' := Lib.hid S
 clear S
 go_enter Tryz.func72,Tryz.ntmps72
 obtain ⟨cb,hcb⟩ : ∃ g,g = w.heap.size := ⟨_,rfl⟩
 obtain ⟨sb,hsb⟩ : ∃ g,g = w.heap.size + 1 := ⟨_,rfl⟩
 go_upto_region 1 with fail
 rw [← hsb,← hcb]
 refine wp_world (fun W => Hid (Sep n w0 (eBlk sb 109 [.int .i64 s.lo,.int .i64 s.hi,.bool s.en] :: eBlk cb 91 (ckC c) :: eMapR (keyC (K := K)) veS nb (fun u : CkK K => F u.1) :: es) W)) ((S0'.out.alloc' 91 (ckC c) rfl hcb).alloc' 109 [.int .i64 s.lo,.int .i64 s.hi,.bool s.en] rfl (by rw [hsb]; simp)) fun W S => ?_
 have S0 := Lib.hid S.out
 clear S S0' hcb hsb
 have LK := lookS hK S0.out 2 rfl c hc
 have s0 := BlkAt.cell (S0.out.get 0 rfl) 0; have s1 := BlkAt.cell (S0.out.get 0 rfl) 1; have s2 := BlkAt.cell (S0.out.get 0 rfl) 2; simp only [List.getElem?_cons_succ,List.getElem?_cons_zero] at s0 s1 s2
 obtain ⟨o,ho⟩ : ∃ o,o = F c := ⟨_,rfl⟩
 rw [← ho] at LK
 have HO := Lib.hid ho
 clear ho
 obtain ⟨tb,htb⟩ : ∃ g,g = W.heap.size := ⟨_,rfl⟩
 cases o with
 | none =>
   simp only [Option.getD_none,Option.isSome_none,veS] at LK
   go_upto_region 2 with (refine wpList_ckLoad c cb (S0.out.get 1 rfl) hc32 rfl _ rfl rfl ?_)
   rw [← htb]
   refine wp_world (fun W => Hid (Sep n w0 (eBlk tb 109 [.int .i64 (⟨0,0,false⟩ : Sp).lo,.int .i64 (⟨0,0,false⟩ : Sp).hi,.bool (⟨0,0,false⟩ : Sp).en] :: eBlk sb 109 [.int .i64 s.lo,.int .i64 s.hi,.bool s.en] :: eBlk cb 91 (ckC c) :: eMapR (keyC (K := K)) veS nb (fun u : CkK K => F u.1) :: es) W)) (S0.out.alloc' 109 [.int .i64 0,.int .i64 0,.bool false] rfl htb) fun W2 S' => ?_
   have S2 := Lib.hid S'.out
   clear S' S0 LK htb s0 s1 s2
   have s0 := BlkAt.cell (S2.out.get 1 rfl) 0; have s1 := BlkAt.cell (S2.out.get 1 rfl) 1; have s2 := BlkAt.cell (S2.out.get 1 rfl) 2; simp only [List.getElem?_cons_succ,List.getElem?_cons_zero] at s0 s1 s2
   go_wp2_with (first | refine wpList_ckLoad c cb (S2.out.get 2 rfl) hc32 rfl _ rfl rfl ?_ | refine wpList_mapUpdateR rfl _ _ _ 110 91 109 rfl S2.out 3 rfl (okC hK) Tryz.underlying110 ⟨c,hc⟩ s rfl rfl rfl ?_)
   intro w3 S3
   have S4 : Hid (Sep n w0 (eMapR (keyC (K := K)) veS nb (fun u : CkK K => jnF F (c,s) u.1) :: es) w3) := Sep.upS (by rw [← HO.out]; rfl) S3.drop1.drop1.drop1
   clear S3 S2 s0 s1 s2
   go_wp2_with fail
   refine bodyPost_ret (v := .tuple #[]) (by simp [results,Tryz.results72,go_sem]) rfl ?_
   exact ⟨⟨_,rfl⟩,S4.out⟩
 | some t =>
   simp only [Option.getD_some,Option.isSome_some,veS] at LK
   go_upto_region 2 with (refine wpList_ckLoad c cb (S0.out.get 1 rfl) hc32 rfl _ rfl rfl ?_)
   rw [← htb]
   refine wp_world (fun W => Hid (Sep n w0 (eBlk tb 109 [.int .i64 t.lo,.int .i64 t.hi,.bool t.en] :: eBlk sb 109 [.int .i64 s.lo,.int .i64 s.hi,.bool s.en] :: eBlk cb 91 (ckC c) :: eMapR (keyC (K := K)) veS nb (fun u : CkK K => F u.1) :: es) W)) (S0.out.alloc' 109 [.int .i64 t.lo,.int .i64 t.hi,.bool t.en] rfl htb) fun W2 S' => ?_
   have S2 := Lib.hid S'.out
   clear S' S0 LK htb s0 s1 s2
   have t0 := BlkAt.cell (S2.out.get 0 rfl) 0; have t1 := BlkAt.cell (S2.out.get 0 rfl) 1; have t2 := BlkAt.cell (S2.out.get 0 rfl) 2; simp only [List.getElem?_cons_succ,List.getElem?_cons_zero] at t0 t1 t2
   have s0 := BlkAt.cell (S2.out.get 1 rfl) 0; have s1 := BlkAt.cell (S2.out.get 1 rfl) 1; have s2 := BlkAt.cell (S2.out.get 1 rfl) 2; simp only [List.getElem?_cons_succ,List.getElem?_cons_zero] at s0 s1 s2
   obtain ⟨te,hte⟩ : ∃ b,b = t.en := ⟨_,rfl⟩
   rw [← hte] at t2
   have HTE := Lib.hid hte
   clear hte
   cases te
   · go_wp2_with (first | refine wpList_ckLoad c cb (S2.out.get 2 rfl) hc32 rfl _ rfl rfl ?_ | (refine wpList_mapUpdateR rfl _ _ _ 110 91 109 rfl S2.out 3 rfl (okC hK) Tryz.underlying110 ⟨c,hc⟩ (jn (some t) s) rfl rfl (by rw [veS,jn,← HTE.out]; rfl) ?_))
     intro w3 S3
     have S4 : Hid (Sep n w0 (eMapR (keyC (K := K)) veS nb (fun u : CkK K => jnF F (c,s) u.1) :: es) w3) := Sep.upS (by rw [← HO.out]) S3.drop1.drop1.drop1
     clear S3 S2 s0 s1 s2 t0 t1 t2
     go_wp2_with fail
     go_end0
     exact ⟨⟨_,rfl⟩,S4.out⟩
   · go_wp2_with (first | refine wpList_ckLoad c cb (S2.out.get 2 rfl) hc32 rfl _ rfl rfl ?_ | (refine wpList_mapUpdateR rfl _ _ _ 110 91 109 rfl S2.out 3 rfl (okC hK) Tryz.underlying110 ⟨c,hc⟩ (jn (some t) s) rfl rfl (by rw [veS,jn,← HTE.out]; rfl) ?_))
     intro w3 S3
     have S4 : Hid (Sep n w0 (eMapR (keyC (K := K)) veS nb (fun u : CkK K => jnF F (c,s) u.1) :: es) w3) := Sep.upS (by rw [← HO.out]) S3.drop1.drop1.drop1
     clear S3 S2 s0 s1 s2 t0 t1 t2
     go_wp2_with fail
     go_end0
     exact ⟨⟨_,rfl⟩,S4.out⟩
def onF (m : Md) (i : Nat) (s : Sp) (F : SpF) (ls : List Ck) : SpF := (cnR m i s s.en ls 0 ls.length).foldl jnF F
def onG (m : Md) (i : Nat) (s : Sp) (F : SpF) (ls : List Ck) (j k : Nat) : SpF := (cnR m i s true ls j k).foldl jnF (onF m i s F ls)
theorem onF_no {m : Md} {i : Nat} {s : Sp} {F : SpF} {ls : List Ck} {c : Ck} (h : m.act c i = none) : onF m i s F (ls ++ [c]) = onF m i s F ls := by
 unfold onF
 rw [List.length_append,List.length_singleton,cnR_next,cnR_grow [c] (by omega),cnX_no (c := c) (by simp) h,List.append_nil]
theorem onF_yes {m : Md} {i : Nat} {s : Sp} {F : SpF} {ls : List Ck} {c t : Ck} (h : m.act c i = some t) : onF m i s F (ls ++ [c]) = jnF (onF m i s F ls) (t,⟨s.lo + (ls.length : Int),s.hi + (ls.length : Int),s.en⟩) := by
 unfold onF
 rw [List.length_append,List.length_singleton,cnR_next,cnR_grow [c] (by omega),cnX_yes (c := c) (by simp) h,List.foldl_append]
 simp
theorem onG_no {m : Md} {i : Nat} {s : Sp} {F : SpF} {ls : List Ck} {j k : Nat} {c : Ck} (hc : ls[j + k]? = some c) (h : m.act c i = none) : onG m i s F ls j (k + 1) = onG m i s F ls j k := by
 unfold onG
 rw [cnR_next,cnX_no hc h,List.append_nil]
theorem onG_yes {m : Md} {i : Nat} {s : Sp} {F : SpF} {ls : List Ck} {j k : Nat} {c t : Ck} (hc : ls[j + k]? = some c) (h : m.act c i = some t) : onG m i s F ls j (k + 1) = jnF (onG m i s F ls j k) (t,⟨s.lo + ((j + k : Nat) : Int),s.hi + ((j + k : Nat) : Int),true⟩) := by
 unfold onG
 rw [cnR_next,cnX_yes hc h,List.foldl_append]
 rfl
structure OnI (m : Md) (c0 c : Ck) (ls : List Ck) : Prop where
 nd : ls.Nodup
 is : ∀ x,x ∈ ls → m.Is x
 ci : m.Is c
 tk : tks m fuelT [] c0 = tks m (fuelT - ls.length) ls c
theorem OnI.start {m : Md} {c : Ck} (h : m.Is c) : OnI m c c [] := ⟨by simp,by simp,h,rfl⟩
theorem OnI.round {m : Md} {c0 c : Ck} {ls : List Ck} (h : OnI m c0 c ls) (hl : ls.length ≤ 4000) (hin : c ∈ ls) (i : Nat) (s : Sp) (F : SpF) : (conV m i (c0,s)).foldl jnF F = onG m i s F ls (idxK ls c) (ls.length - idxK ls c) := by
 obtain ⟨k,hk⟩ : ∃ k,fuelT - ls.length = k + 1 := ⟨fuelT - ls.length - 1,by unfold fuelT; omega⟩
 have : tks m fuelT [] c0 = (ls,some (idxK ls c)) := by rw [h.tk,hk]; simp only [tks,if_pos hin]
 unfold conV onG onF
 simp only [this]
 rw [List.foldl_append]
theorem OnI.stuck {m : Md} {c0 c : Ck} {ls : List Ck} (h : OnI m c0 c ls) (hl : ls.length ≤ 4000) (hin : ¬ c ∈ ls) (ht : m.tick c = none) (i : Nat) (s : Sp) (F : SpF) : (conV m i (c0,s)).foldl jnF F = onF m i s F (ls ++ [c]) := by
 obtain ⟨k,hk⟩ : ∃ k,fuelT - ls.length = k + 1 := ⟨fuelT - ls.length - 1,by unfold fuelT; omega⟩
 have : tks m fuelT [] c0 = (ls ++ [c],none) := by rw [h.tk,hk]; simp only [tks,if_neg hin,ht]
 unfold conV onF
 simp only [this]
 rw [List.append_nil]
theorem OnI.next {m : Md} {c0 c d : Ck} {ls : List Ck} (hm : m.Ok) (h : OnI m c0 c ls) (hl : ls.length ≤ 4000) (hin : ¬ c ∈ ls) (ht : m.tick c = some d) : OnI m c0 d (ls ++ [c]) := by
 obtain ⟨k,hk⟩ : ∃ k,fuelT - ls.length = k + 1 := ⟨fuelT - ls.length - 1,by unfold fuelT; omega⟩
 refine ⟨?_,fun x hx => ?_,h.ci.tick hm ht,?_⟩
 · rw [List.nodup_append]
   exact ⟨h.nd,by simp,fun a ha b hb e => by simp at hb; subst hb; subst e; exact hin ha⟩
 · rcases List.mem_append.1 hx with g | g
   · exact h.is x g
   · simp at g; subst g; exact h.ci
 · rw [h.tk,hk]
   have : fuelT - (ls ++ [c]).length = k := by rw [List.length_append,List.length_singleton]; omega
   rw [this]
   simp only [tks,if_neg hin,ht]
theorem wpStill_ckLoad {ops : Array Oper} {rest : List Oper} {o : Oper} {a : Act} {w : World} {Q : Act → Prop} (c : Ck) (g : Nat) (hb : BlkAt w g 91 (ckC c)) (hc : c.2.length ≤ 32) (hgd : o.guard = none) (x : Operand) (ho : o.op = .load 91 x)
 (hx : a.eval x = .pointer (some ⟨g,0,none⟩)) (h : wpStill Tryz.prog ops w Q rest (a.put o.dst (.agg (ckC c).toArray))) : wpStill Tryz.prog ops w Q (o :: rest) a := by
 refine wpStill_step fun K hK => ?_
 have hw : Region.wanted o (yielded ops a.tmps) = true := by simp [Region.wanted,hgd]
 rw [if_pos hw]
 have hr := run_ckVar hb hc
 unfold Oper.still
 unfold execOp
 simp only [ho,hx,Instr.loadAt,Instr.sureAddr,Sem.run_bind,Sem.run_pure,Result.andThen_ok,hr]
 exact ⟨rfl,hK _ h⟩
theorem wpStill_lookup {ops : Array Oper} {rest : List Oper} {o : Oper} {a : Act} {w : World} {Q : Act → Prop} (hgd : o.guard = none) (M : TypeId) (m x : Operand) (ho : o.op = .lookup M m x false) {vm vx v : Value} (hr : (Instr.lookup M vm vx false).run Tryz.prog w = .ok v w)
 (hm : a.eval m = vm) (hx : a.eval x = vx) (h : wpStill Tryz.prog ops w Q rest (a.put o.dst v)) : wpStill Tryz.prog ops w Q (o :: rest) a := by
 refine wpStill_step fun K hK => ?_
 have hw : Region.wanted o (yielded ops a.tmps) = true := by simp [Region.wanted,hgd]
 rw [if_pos hw]
 unfold Oper.still execOp
 simp only [ho,hx,hm,Sem.run_bind,Sem.run_pure,Result.andThen_ok,hr]
 exact ⟨rfl,hK _ h⟩
theorem idxK_at {ls : List Ck} (hn : ls.Nodup) {j : Nat} {c : Ck} (h : ls[j]? = some c) : idxK ls c = j := by
 have hj := (List.getElem?_eq_some_iff.1 h).1
 have hm := List.mem_of_getElem? h
 have h1 := idxK_get hm
 have h2 := idxK_lt hm
 have := List.pairwise_iff_getElem.1 (List.nodup_iff_pairwise_ne.1 hn)
 rw [List.getElem?_eq_getElem h2,Option.some.injEq] at h1
 rw [List.getElem?_eq_getElem hj,Option.some.injEq] at h
 rcases Nat.lt_trichotomy (idxK ls c) j with q | q | q
 · exact absurd (h1.trans h.symm) (this _ _ h2 hj q)
 · exact q
 · exact absurd (h.trans h1.symm) (this _ _ hj h2 q)
set_option maxHeartbeats 8000000 in
theorem onward_c (m : Md) (q : McP) (nb i : Nat) (F : SpF) (c0 : Ck) (s : Sp) (n : Nat) (w0 w : World) (e1 e2 : Ent) (hm : m.Ok) (hQ : ∀ V,Below n w0 V → (eMc m q).ok V → Mch V m q) (hf : Few m) (hc : m.Is c0) (hi : i < m.ac.length)
 (hs : (0 ≤ s.lo ∧ s.lo ≤ 1000000000) ∧ 0 ≤ s.hi ∧ s.hi ≤ 1000000000) (S : Sep n w0 [eMapR (keyC (K := m.ac.length)) veS nb (fun u : CkK m.ac.length => (F) u.1),eMc m q,e1,e2] w) :
 Calls Tryz.prog 48 #[.pointer (some ⟨q.g,0,none⟩),.map (some nb),.agg (ckC c0).toArray,.agg #[.int .i64 s.lo,.int .i64 s.hi,.bool s.en],.int .i64 (i : Int)] w (fun e w' => (∃ u,e = .returned u) ∧ Hid (Sep n w0 [eMapR (keyC (K := m.ac.length)) veS nb (fun u : CkK m.ac.length => ((conV m i (c0,s)).foldl jnF F) u.1),eMc m q,e1,e2] w')) := by
 have h32 := hm.len32
 have HM := Lib.hid hm
 have HQ := Lib.hid hQ
 have HF := Lib.hid hf
 have HC := Lib.hid hc
 have SX := Lib.hid S
 have HS := Lib.hid hs
 have hc32 : c0.2.length ≤ 32 := by rw [hc.len]; exact h32
 clear hm hQ hf hc S hs
 have hmm0 := @run_makeMap Tryz.prog
 go_enter Tryz.func48,Tryz.ntmps48
 obtain ⟨cb,hcb⟩ : ∃ g,g = w.heap.size := ⟨_,rfl⟩
 obtain ⟨sb,hsb⟩ : ∃ g,g = w.heap.size + 1 := ⟨_,rfl⟩
 go_upto_region 1 with fail
 rw [← hsb,← hcb]
 refine wp_world (fun W => Hid (Sep n w0 [eBlk sb 109 [.int .i64 s.lo,.int .i64 s.hi,.bool s.en],eBlk cb 91 (ckC c0),eMapR (keyC (K := m.ac.length)) veS nb (fun u : CkK m.ac.length => (F) u.1),eMc m q,e1,e2] W)) ((SX.out.alloc' 91 (ckC c0) rfl hcb).alloc' 109 [.int .i64 s.lo,.int .i64 s.hi,.bool s.en] rfl (by rw [hsb]; simp)) fun W S => ?_
 have S0 := Lib.hid S.out
 clear S SX hcb hsb
 obtain ⟨sm,hsm⟩ : ∃ g,g = W.heap.size := ⟨_,rfl⟩
 go_upto_region 2 with fail
 rw [← hsm]
 refine wp_world (fun W => Hid (Sep n w0 [eBlk cb 91 (ckC c0),eBlk sb 109 [.int .i64 s.lo,.int .i64 s.hi,.bool s.en],eMap (keyC (K := m.ac.length)) veI sm (idxC []),eCks [] (.slice none 0 0),eMapR (keyC (K := m.ac.length)) veS nb (fun u : CkK m.ac.length => (onF m i s F []) u.1),eMc m q,e1,e2] W)) (by
  have h := S0.out.allocMap (keyC (K := m.ac.length)) veI hsm
  have e : (fun _ => none : CkK m.ac.length → Option Int) = idxC [] := by funext u; simp [idxC]
  rw [e] at h
  exact (h.nilOwn encC 33 91).pick [3,2,1,0,4,5,6,7] (by decide)) fun W2 S => ?_
 have S2 := Lib.hid S.out
 clear S S0 hsm
 clear hmm0
 have HFL : Hid (∀ c ls,OnI m c0 c ls → ls.length ≤ 4000) := fun c ls h => HF.out ls h.nd h.is
 go_wp2_with fail
 go_loopw [11] (fun v wr => ∃ (ls : List Ck) (c : Ck) (A : Option Addr) (cA : Nat),v = .slice A ls.length cA ∧ Hid (OnI m c0 c ls) ∧ Hid (Sep n w0 [eBlk cb 91 (ckC c),eBlk sb 109 [.int .i64 s.lo,.int .i64 s.hi,.bool s.en],eMap (keyC (K := m.ac.length)) veI sm (idxC ls),eCks ls (.slice A ls.length cA),eMapR (keyC (K := m.ac.length)) veS nb (fun u : CkK m.ac.length => (onF m i s F ls) u.1),eMc m q,e1,e2] wr)) (fun v _ => 4001 - lenOf v)
 case atStart => exact ⟨[],c0,none,0,rfl,OnI.start HC.out,S2.out⟩
 case round =>
  clear S2
  obtain ⟨ls,c,A,cA,rfl,OI,S⟩ := hrel
  have hll := HFL.out _ _ OI.out
  have hcis := OI.out.ci
  have hK : c.2.length = m.ac.length := hcis.len
  have hc32' : c.2.length ≤ 32 := by rw [hK]; exact h32
  have HCI := Lib.hid hcis
  have hlk := (MapG.look (okC h32) Tryz.underlying134 zeroI (S.out.get 2 rfl) ⟨c,hK⟩).1
  unfold keyC at hlk
  clear hcis
  by_cases hin : c ∈ ls
  · have hix : idxC ls (⟨c,hK⟩ : CkK m.ac.length) = some ((idxK ls c : Nat) : Int) := if_pos hin
    rw [hix] at hlk
    obtain ⟨j,hj⟩ : ∃ j,j = idxK ls c := ⟨_,rfl⟩
    rw [← hj] at hlk
    simp only [Option.getD_some,Option.isSome_some,veI] at hlk
    have hjl : j < ls.length := by rw [hj]; exact idxK_lt hin
    have FIN : Hid ((conV m i (c0,s)).foldl jnF F = onG m i s F ls j (ls.length - j)) := by rw [hj]; exact OI.out.round hll hin i s F
    have ON := OI
    clear hix hj hin OI
    obtain ⟨x0,hx0⟩ : ∃ x,ls[j]? = some x := ⟨_,List.getElem?_eq_getElem hjl⟩
    obtain ⟨bf,of,hAF,_⟩ := CksAt.at (Own.reads encC_len (S.out.get 3 rfl)) hx0 (by rw [(ON.out.is x0 (List.mem_of_getElem? hx0)).len]; exact h32)
    subst hAF
    have hcap : ls.length ≤ cA := Own.cap (S.out.get 3 rfl)
    clear hx0
    go_upto_region 5 with (refine wpList_ckLoad c cb (S.out.get 0 rfl) hc32' rfl _ rfl rfl ?_)
    have LK : Hid (∀ (V : World) (d : Ck) (t : Nat) (G : SpF),Hid (Sep n w0 [eBlk cb 91 (ckC c),eBlk sb 109 [.int .i64 s.lo,.int .i64 s.hi,.bool s.en],eMap (keyC (K := m.ac.length)) veI sm (idxC ls),eCks ls (.slice (some ⟨bf,of,none⟩) ls.length cA),eMapR (keyC (K := m.ac.length)) veS nb (fun u : CkK m.ac.length => (G) u.1),eMc m q,e1,e2] V) → ls[t]? = some d → (Instr.lookup 134 (.map (some sm)) (.agg (ckC d).toArray) false).run Tryz.prog V = .ok (.int .i64 (t : Int)) V) := fun V d t G h hd => by
     have hdK : d.2.length = m.ac.length := (ON.out.is d (List.mem_of_getElem? hd)).len
     have h1 := (MapG.look (okC h32) Tryz.underlying134 zeroI (h.out.get 2 rfl) ⟨d,hdK⟩).2
     have hix : idxC ls (⟨d,hdK⟩ : CkK m.ac.length) = some ((idxK ls d : Nat) : Int) := if_pos (List.mem_of_getElem? hd)
     rw [hix,idxK_at ON.out.nd hd] at h1
     exact h1
    clear hlk
    have hd0 : decide ((j : Int) < 0) = false := by simp
    go_upto_block 2 with fail
    go_wp2_with fail
    go_loopw [34] (fun v wr => ∃ (k : Nat),v = .int .i64 (k : Int) ∧ k ≤ ls.length - j ∧ Hid (Sep n w0 [eBlk cb 91 (ckC c),eBlk sb 109 [.int .i64 s.lo,.int .i64 s.hi,.bool s.en],eMap (keyC (K := m.ac.length)) veI sm (idxC ls),eCks ls (.slice (some ⟨bf,of,none⟩) ls.length cA),eMapR (keyC (K := m.ac.length)) veS nb (fun u : CkK m.ac.length => (onG m i s F ls j k) u.1),eMc m q,e1,e2] wr)) (fun v _ => ls.length - (intOf v).toNat)
    case atStart => exact ⟨0,rfl,Nat.zero_le _,S.out⟩
    case round =>
     clear S
     obtain ⟨k,rfl,hk,S⟩ := hrel
     have hwr : IntKind.i64.wrap ((k : Int) + 1) = (k : Int) + 1 := IntWalk.i64_in _ (by omega)
     by_cases hkl : k < ls.length - j
     · obtain ⟨d,hd⟩ : ∃ d,ls[j + k]? = some d := ⟨_,List.getElem?_eq_getElem (by omega)⟩
       have hdis := ON.out.is d (List.mem_of_getElem? hd)
       have hd32 : d.2.length ≤ 32 := by rw [hdis.len]; exact h32
       have hrg : wr.rangeAt bf (of + j * 33 + k * 33) (ckC d) := by
        have h := CksAt.range (Own.reads encC_len (S.out.get 3 rfl)) hd hd32
        rw [show of + j * 33 + k * 33 = of + (j + k) * 33 by omega]
        exact h
       have HD := Lib.hid hd
       have HDI := Lib.hid hdis
       clear hd hdis
       obtain ⟨db,hdb⟩ : ∃ g,g = wr.heap.size := ⟨_,rfl⟩
       go_upto_region 8 with (first | refine wpList_load_mid rfl 91 _ rfl bf (of + j * 33 + k * 33) rfl (ckC d) _ hrg Tryz.underlying91 rfl (by rw [ck_info,ckC_len hd32]) ?_ | refine wpList_ckNew d hd32 rfl _ _ rfl _ rfl rfl (by kernel_rfl) ?_)
       rw [← hdb]
       refine wp_world (fun V => Hid (Sep n w0 [eBlk db 91 (ckC d),eBlk cb 91 (ckC c),eBlk sb 109 [.int .i64 s.lo,.int .i64 s.hi,.bool s.en],eMap (keyC (K := m.ac.length)) veI sm (idxC ls),eCks ls (.slice (some ⟨bf,of,none⟩) ls.length cA),eMapR (keyC (K := m.ac.length)) veS nb (fun u : CkK m.ac.length => (onG m i s F ls j k) u.1),eMc m q,e1,e2] V)) (S.out.alloc' _ (ckC d) rfl hdb) fun W9 S' => ?_
       have S9 := Lib.hid S'.out
       clear S' S hdb hrg
       have AC := act_c m q d i W9 HM.out (HQ.out W9 S9.out.below (S9.out.get 6 rfl)) HDI.out hi
       obtain ⟨r,hr⟩ : ∃ r,r = m.act d i := ⟨_,rfl⟩
       obtain ⟨t,ht⟩ : ∃ d,d = r.getD (0,[]) := ⟨_,rfl⟩
       obtain ⟨bb,hbb⟩ : ∃ b,b = r.isSome := ⟨_,rfl⟩
       have AC2 : Hid (Calls Tryz.prog 66 #[.pointer (some ⟨q.g,0,none⟩),.agg (ckC d).toArray,.int .i64 (i : Int)] W9 (Ret (.tuple #[.agg (ckC t).toArray,.bool bb]) W9)) := by
        have e : ckV (m.act d i) = .tuple #[.agg (ckC t).toArray,.bool bb] := by rw [← hr,ht,hbb]; rfl
        rw [← e]; exact AC
       have HR : Hid ((bb = true ∧ m.act d i = some t) ∨ (bb = false ∧ m.act d i = none)) := by
        rw [Hid,← hr,ht,hbb]
        cases r with
        | none => exact .inr ⟨rfl,rfl⟩
        | some x => exact .inl ⟨rfl,rfl⟩
       have ht32 : t.2.length ≤ 32 := by
        rw [ht]
        cases hx : r with
        | none => simp
        | some x => simp only [Option.getD_some]; rw [(HDI.out.act HM.out (show m.act d i = some x by rw [← hr,hx])).len]; exact h32
       clear AC hr ht hbb r
       go_frame
       go_cut [16,17] (fun v16 v17 wx => ∃ tb,v16 = .pointer (some ⟨tb,0,none⟩) ∧ v17 = .bool bb ∧ Hid (Sep n w0 [eBlk tb 91 (ckC t),eBlk db 91 (ckC d),eBlk cb 91 (ckC c),eBlk sb 109 [.int .i64 s.lo,.int .i64 s.hi,.bool s.en],eMap (keyC (K := m.ac.length)) veI sm (idxC ls),eCks ls (.slice (some ⟨bf,of,none⟩) ls.length cA),eMapR (keyC (K := m.ac.length)) veS nb (fun u : CkK m.ac.length => (onG m i s F ls j k) u.1),eMc m q,e1,e2] wx))
       case first =>
        go_wp2_with (refine wpList_ckLoad d db (S9.out.get 0 rfl) hd32 rfl _ rfl rfl ?_)
        refine AC2.out.mono ?_
        rintro e w8 ⟨rfl,hb⟩
        have S12 := Lib.hid (S9.out.next hb)
        clear S9 AC2 hb
        obtain ⟨tb,htb⟩ : ∃ g,g = w8.heap.size := ⟨_,rfl⟩
        go_wp2_with (refine wpList_ckNew t ht32 rfl _ _ rfl _ rfl rfl (by kernel_rfl) ?_)
        rw [← htb]
        go_meet
        exact ⟨tb,rfl,rfl,S12.out.alloc' _ (ckC t) rfl htb⟩
       case rest =>
        clear S9 AC2
        obtain ⟨tb,rfl,rfl,S12⟩ := hcut
        rcases HR.out with ⟨rfl,hra⟩ | ⟨rfl,hra⟩
        · have HA : Hid (jnF (onG m i s F ls j k) (t,⟨s.lo + ((j + k : Nat) : Int),s.hi + ((j + k : Nat) : Int),true⟩) = onG m i s F ls j (k + 1)) := (onG_yes HD.out hra).symm
          have htl : t.2.length = m.ac.length := (HDI.out.act HM.out hra).len
          have hlk := LK.out wc.drew d (j + k) _ (Lib.hid S12.out.drop1.drop1.drew) HD.out
          obtain ⟨jk,hjk⟩ : ∃ jk : Int,jk = ((j + k : Nat) : Int) := ⟨_,rfl⟩
          have hj4 : 0 ≤ jk ∧ jk ≤ 4000 := by rw [hjk]; omega
          rw [← hjk] at hlk HA
          clear hra hjk
          have s0 := BlkAt.cell (S12.out.get 3 rfl) 0; have s1 := BlkAt.cell (S12.out.get 3 rfl) 1; have s2 := BlkAt.cell (S12.out.get 3 rfl) 2; simp only [List.getElem?_cons_succ,List.getElem?_cons_zero] at s0 s1 s2
          have hS := HS.out
          have hw2 : IntKind.i64.wrap (s.lo + jk) = s.lo + jk := IntWalk.i64_in _ (by omega)
          have hw3 : IntKind.i64.wrap (s.hi + jk) = s.hi + jk := IntWalk.i64_in _ (by omega)
          have kv1 := run_ckVar (S12.out.get 0 rfl) ht32
          have kv2 := run_ckVar (S12.out.get 1 rfl) hd32
          have JC := Lib.hid (join_c h32 nb (onG m i s F ls j k) t ⟨s.lo + jk,s.hi + jk,true⟩ n w0 wc.drew [eMc m q,e1,e2,eBlk tb 91 (ckC t),eBlk db 91 (ckC d),eBlk cb 91 (ckC c),eBlk sb 109 [.int .i64 s.lo,.int .i64 s.hi,.bool s.en],eMap (keyC (K := m.ac.length)) veI sm (idxC ls),eCks ls (.slice (some ⟨bf,of,none⟩) ls.length cA)] htl (S12.out.drew.pick [6,7,8,9,0,1,2,3,4,5] (by decide)))
          go_wp2_with fail
          refine wp_region_still_tail 15 (by kernel_rfl) (by kernel_rfl) ?_
          simp only [List.take_succ_cons,List.take_zero,List.drop_succ_cons,List.drop_zero]
          repeat (first | refine wpStill_ckLoad t tb (S12.out.get 0 rfl) ht32 rfl _ rfl rfl ?_ | refine wpStill_ckLoad d db (S12.out.get 1 rfl) hd32 rfl _ rfl rfl ?_ | refine wpStill_lookup rfl _ _ _ rfl hlk rfl rfl ?_ | still_step)
          try refine wpStill_nil ?_
          change wpList _ _ _ _ _ wc.drew
          go_wp2_with fail
          refine JC.out.mono ?_
          rintro e w10 ⟨⟨u,rfl⟩,S13⟩
          have S14 : Hid (Sep n w0 [eBlk cb 91 (ckC c),eBlk sb 109 [.int .i64 s.lo,.int .i64 s.hi,.bool s.en],eMap (keyC (K := m.ac.length)) veI sm (idxC ls),eCks ls (.slice (some ⟨bf,of,none⟩) ls.length cA),eMapR (keyC (K := m.ac.length)) veS nb (fun u : CkK m.ac.length => (onG m i s F ls j (k + 1)) u.1),eMc m q,e1,e2] w10) := by
           have h := S13.out
           rw [HA.out] at h
           exact h.pick [6,7,8,9,0,1,2,3] (by decide)
          clear S13 JC S12 s0 s1 s2 hlk kv1 kv2
          go_wp2_with fail
          go_roundw
          case rel => exact ⟨k + 1,by go_num,by omega,S14.out⟩
          case measure => simp [intOf]; omega
        · have S14 : Hid (Sep n w0 [eBlk cb 91 (ckC c),eBlk sb 109 [.int .i64 s.lo,.int .i64 s.hi,.bool s.en],eMap (keyC (K := m.ac.length)) veI sm (idxC ls),eCks ls (.slice (some ⟨bf,of,none⟩) ls.length cA),eMapR (keyC (K := m.ac.length)) veS nb (fun u : CkK m.ac.length => (onG m i s F ls j (k + 1)) u.1),eMc m q,e1,e2] wc) := by rw [onG_no HD.out hra]; exact S12.out.drop1.drop1
          clear S12 hra
          go_wp2_with fail
          go_roundw
          case rel => exact ⟨k + 1,by go_num,by omega,S14.out⟩
          case measure => simp [intOf]; omega
     · obtain rfl : k = ls.length - j := by omega
       go_wp2_with fail
       refine bodyPost_ret (v := .tuple #[]) (by simp [results,Tryz.results48,go_sem]) rfl ?_
       exact ⟨⟨_,rfl⟩,by rw [FIN.out]; exact S.out.pick [4,5,6,7] (by decide)⟩
  · have hix : idxC ls (⟨c,hK⟩ : CkK m.ac.length) = none := if_neg hin
    rw [hix] at hlk
    have HPU := Lib.hid (idxC_push (t := (⟨c,hK⟩ : CkK m.ac.length)) hin)
    simp only [Option.getD_none,Option.isSome_none,veI] at hlk
    have HIN := Lib.hid hin
    clear hix hin
    go_upto_region 12 with (refine wpList_ckLoad c cb (S.out.get 0 rfl) hc32' rfl _ rfl rfl ?_)
    go_upto_region 13 with (first | refine wpList_ckLoad c cb (S.out.get 0 rfl) hc32' rfl _ rfl rfl ?_ | refine wpList_mapUpdateS rfl _ _ _ 134 91 3 rfl S.out 2 rfl (okC h32) Tryz.underlying134 ⟨c,hK⟩ (ls.length : Int) rfl rfl rfl ?_)
    intro w6 S6 _
    have S7 : Hid (Sep n w0 [eBlk cb 91 (ckC c),eBlk sb 109 [.int .i64 s.lo,.int .i64 s.hi,.bool s.en],eMap (keyC (K := m.ac.length)) veI sm (idxC (ls ++ [c])),eCks ls (.slice A ls.length cA),eMapR (keyC (K := m.ac.length)) veS nb (fun u : CkK m.ac.length => (onF m i s F ls) u.1),eMc m q,e1,e2] w6) := by
     rw [HPU.out] at S6
     exact S6
    clear S6 S hlk
    go_upto_region 13 with fail
    obtain ⟨gx,hgx⟩ : ∃ g,g = w6.heap.size := ⟨_,rfl⟩
    have S8 := S7.out.alloc' 91 (ckC c) (o := .cells (ckC c).toArray 91) rfl hgx
    go_upto_region 14 with (first | refine wpList_ckLoad c cb (S7.out.get 0 rfl) hc32' rfl _ rfl rfl ?_ | refine wpList_buildCk c hc32' rfl _ rfl rfl ?_ | (at_builtin; rw [← hgx]; refine wpList_pushS rfl _ _ 103 rfl S8 4 rfl Tryz.underlying103 _ 40 ckInfo (by simp [Value.cells,ckC_len]) (by decide) rfl c gx rfl (encC_len c) (fun k u hk => (BlkAt.cell (S8.get 0 rfl) k).trans (by rw [← encC_eq hc32']; exact hk)) (encC_cell c) (by omega) (by decide) ?_))
    intro A2' c2' w7 S9 _
    have S10 : Hid (Sep n w0 [eBlk cb 91 (ckC c),eBlk sb 109 [.int .i64 s.lo,.int .i64 s.hi,.bool s.en],eMap (keyC (K := m.ac.length)) veI sm (idxC (ls ++ [c])),eCks (ls ++ [c]) (.slice A2' (ls.length + 1) c2'),eMapR (keyC (K := m.ac.length)) veS nb (fun u : CkK m.ac.length => (onF m i s F ls) u.1),eMc m q,e1,e2] w7) := S9.drop1
    clear S9 S8 S7 hgx
    go_upto_region 14 with fail
    have AC := act_c m q c i w7 HM.out (HQ.out w7 S10.out.below (S10.out.get 5 rfl)) HCI.out hi
    have hln1 : (ls ++ [c]).length = ls.length + 1 := by simp
    have HLN := Lib.hid hln1
    have S11 : Hid (Sep n w0 [eBlk cb 91 (ckC c),eBlk sb 109 [.int .i64 s.lo,.int .i64 s.hi,.bool s.en],eMap (keyC (K := m.ac.length)) veI sm (idxC (ls ++ [c])),eCks (ls ++ [c]) (.slice A2' (ls ++ [c]).length c2'),eMapR (keyC (K := m.ac.length)) veS nb (fun u : CkK m.ac.length => (onF m i s F ls) u.1),eMc m q,e1,e2] w7) := by rw [hln1]; exact S10.out
    clear S10 hln1
    obtain ⟨r,hr⟩ : ∃ r,r = m.act c i := ⟨_,rfl⟩
    obtain ⟨d,hd⟩ : ∃ d,d = r.getD (0,[]) := ⟨_,rfl⟩
    obtain ⟨bb,hbb⟩ : ∃ b,b = r.isSome := ⟨_,rfl⟩
    have AC2 : Hid (Calls Tryz.prog 66 #[.pointer (some ⟨q.g,0,none⟩),.agg (ckC c).toArray,.int .i64 (i : Int)] w7 (Ret (.tuple #[.agg (ckC d).toArray,.bool bb]) w7)) := by
     have e : ckV (m.act c i) = .tuple #[.agg (ckC d).toArray,.bool bb] := by rw [← hr,hd,hbb]; rfl
     rw [← e]; exact AC
    have HR : Hid ((bb = true ∧ m.act c i = some d) ∨ (bb = false ∧ m.act c i = none)) := by
     rw [Hid,← hr,hd,hbb]
     cases r with
     | none => exact .inr ⟨rfl,rfl⟩
     | some x => exact .inl ⟨rfl,rfl⟩
    have hd32 : d.2.length ≤ 32 := by
     rw [hd]
     cases hx : r with
     | none => simp
     | some x => simp only [Option.getD_some]; rw [(HCI.out.act HM.out (show m.act c i = some x by rw [← hr,hx])).len]; exact h32
    clear AC hr hd hbb r
    go_cut [18,19] (fun v18 v19 wx => ∃ tb,v18 = .pointer (some ⟨tb,0,none⟩) ∧ v19 = .bool bb ∧ Hid (Sep n w0 [eBlk tb 91 (ckC d),eBlk cb 91 (ckC c),eBlk sb 109 [.int .i64 s.lo,.int .i64 s.hi,.bool s.en],eMap (keyC (K := m.ac.length)) veI sm (idxC (ls ++ [c])),eCks (ls ++ [c]) (.slice A2' (ls ++ [c]).length c2'),eMapR (keyC (K := m.ac.length)) veS nb (fun u : CkK m.ac.length => (onF m i s F ls) u.1),eMc m q,e1,e2] wx))
    case first =>
     go_wp2_with (refine wpList_ckLoad c cb (S11.out.get 0 rfl) hc32' rfl _ rfl rfl ?_)
     refine AC2.out.mono ?_
     rintro e w8 ⟨rfl,hb⟩
     have S12 := Lib.hid (S11.out.next hb)
     clear S11 AC2 hb
     obtain ⟨tb,htb⟩ : ∃ g,g = w8.heap.size := ⟨_,rfl⟩
     go_wp2_with (refine wpList_ckNew d hd32 rfl _ _ rfl _ rfl rfl (by kernel_rfl) ?_)
     rw [← htb]
     go_meet
     exact ⟨tb,rfl,rfl,S12.out.alloc' _ (ckC d) rfl htb⟩
    case rest =>
     clear S11 AC2
     obtain ⟨tb,rfl,rfl,S12⟩ := hcut
     go_upto_if 78 with fail
     go_cut [] (fun wx => Hid (Sep n w0 [eBlk cb 91 (ckC c),eBlk sb 109 [.int .i64 s.lo,.int .i64 s.hi,.bool s.en],eMap (keyC (K := m.ac.length)) veI sm (idxC (ls ++ [c])),eCks (ls ++ [c]) (.slice A2' (ls ++ [c]).length c2'),eMapR (keyC (K := m.ac.length)) veS nb (fun u : CkK m.ac.length => (onF m i s F (ls ++ [c])) u.1),eMc m q,e1,e2] wx))
     case first =>
      rcases HR.out with ⟨rfl,hra⟩ | ⟨rfl,hra⟩
      · have HA : Hid (jnF (onF m i s F ls) (d,⟨s.lo + (ls.length : Int),s.hi + (ls.length : Int),s.en⟩) = onF m i s F (ls ++ [c])) := (onF_yes hra).symm
        have htl : d.2.length = m.ac.length := (HCI.out.act HM.out hra).len
        clear hra
        have s0 := BlkAt.cell (S12.out.get 2 rfl) 0; have s1 := BlkAt.cell (S12.out.get 2 rfl) 1; have s2 := BlkAt.cell (S12.out.get 2 rfl) 2; simp only [List.getElem?_cons_succ,List.getElem?_cons_zero] at s0 s1 s2
        have hS := HS.out
        have hw1 : IntKind.i64.wrap ((ls.length : Int) + 1 - 1) = (ls.length : Int) := by have := IntWalk.i64_in ((ls.length : Int)) (by omega); rw [show ((ls.length : Int) + 1 - 1) = (ls.length : Int) by omega]; exact this
        have hw2 : IntKind.i64.wrap (s.lo + (ls.length : Int)) = s.lo + (ls.length : Int) := IntWalk.i64_in _ (by omega)
        have hw3 : IntKind.i64.wrap (s.hi + (ls.length : Int)) = s.hi + (ls.length : Int) := IntWalk.i64_in _ (by omega)
        have JC := Lib.hid (join_c h32 nb (onF m i s F ls) d ⟨s.lo + (ls.length : Int),s.hi + (ls.length : Int),s.en⟩ n w0 wc [eMc m q,e1,e2,eBlk tb 91 (ckC d),eBlk cb 91 (ckC c),eBlk sb 109 [.int .i64 s.lo,.int .i64 s.hi,.bool s.en],eMap (keyC (K := m.ac.length)) veI sm (idxC (ls ++ [c])),eCks (ls ++ [c]) (.slice A2' (ls ++ [c]).length c2')] htl (S12.out.pick [5,6,7,8,0,1,2,3,4] (by decide)))
        go_wp2_with (refine wpList_ckLoad d tb (S12.out.get 0 rfl) hd32 rfl _ rfl rfl ?_)
        refine JC.out.mono ?_
        rintro e w10 ⟨⟨u,rfl⟩,S13⟩
        have S14 : Hid (Sep n w0 [eBlk cb 91 (ckC c),eBlk sb 109 [.int .i64 s.lo,.int .i64 s.hi,.bool s.en],eMap (keyC (K := m.ac.length)) veI sm (idxC (ls ++ [c])),eCks (ls ++ [c]) (.slice A2' (ls ++ [c]).length c2'),eMapR (keyC (K := m.ac.length)) veS nb (fun u : CkK m.ac.length => (onF m i s F (ls ++ [c])) u.1),eMc m q,e1,e2] w10) := by
         have h := S13.out
         rw [HA.out] at h
         exact h.pick [5,6,7,8,0,1,2,3] (by decide)
        clear S13 JC S12 s0 s1 s2
        go_wp2_with fail
        go_meet
        exact S14.out
      · have S14 : Hid (Sep n w0 [eBlk cb 91 (ckC c),eBlk sb 109 [.int .i64 s.lo,.int .i64 s.hi,.bool s.en],eMap (keyC (K := m.ac.length)) veI sm (idxC (ls ++ [c])),eCks (ls ++ [c]) (.slice A2' (ls ++ [c]).length c2'),eMapR (keyC (K := m.ac.length)) veS nb (fun u : CkK m.ac.length => (onF m i s F (ls ++ [c])) u.1),eMc m q,e1,e2] wc) := by rw [onF_no hra]; exact S12.out.drop1
        clear S12 hra
        go_wp2_with fail
        go_meet
        exact S14.out
     case rest =>
      clear S12 HR
      have S := hcut
      clear hcut
      have TC := tick_c m q c wc HM.out (HQ.out wc S.out.below (S.out.get 5 rfl)) HCI.out
      obtain ⟨r,hr⟩ : ∃ r,r = m.tick c := ⟨_,rfl⟩
      rw [← hr] at TC
      cases r with
      | none =>
        have FIN : Hid ((conV m i (c0,s)).foldl jnF F = onF m i s F (ls ++ [c])) := OI.out.stuck hll HIN.out hr.symm i s F
        simp only [ckV,Option.getD_none,Option.isSome_none] at TC
        have TC2 := Lib.hid TC
        clear TC hr
        go_wp2_with (refine wpList_ckLoad c cb (S.out.get 0 rfl) hc32' rfl _ rfl rfl ?_)
        refine TC2.out.mono ?_
        rintro e w8 ⟨rfl,hb⟩
        have S11 := Lib.hid (S.out.next hb)
        clear S TC2 hb
        go_wp2_with (refine wpList_ckAt (0,[]) (by simp) rfl _ _ rfl S11.out 0 cb c hc32' rfl rfl rfl ?_)
        intro w9 S12
        have S13 : Hid (Sep n w0 [eMapR (keyC (K := m.ac.length)) veS nb (fun u : CkK m.ac.length => (onF m i s F (ls ++ [c])) u.1),eMc m q,e1,e2] w9) := S12.pick [4,5,6,7] (by decide)
        clear S12 S11
        go_wp2_with fail
        refine bodyPost_ret (v := .tuple #[]) (by simp [results,Tryz.results48,go_sem]) rfl ?_
        exact ⟨⟨_,rfl⟩,by rw [FIN.out]; exact S13.out⟩
      | some d' =>
        have ON : Hid (OnI m c0 d' (ls ++ [c])) := OI.out.next HM.out hll HIN.out hr.symm
        have hd32' : d'.2.length ≤ 32 := by rw [ON.out.ci.len]; exact h32
        simp only [ckV,Option.getD_some,Option.isSome_some] at TC
        have TC2 := Lib.hid TC
        clear TC hr
        go_wp2_with (refine wpList_ckLoad c cb (S.out.get 0 rfl) hc32' rfl _ rfl rfl ?_)
        refine TC2.out.mono ?_
        rintro e w8 ⟨rfl,hb⟩
        have S11 := Lib.hid (S.out.next hb)
        clear S TC2 hb
        go_wp2_with (refine wpList_ckAt d' hd32' rfl _ _ rfl S11.out 0 cb c hc32' rfl rfl rfl ?_)
        intro w9 S12
        have S13 : Hid (Sep n w0 [eBlk cb 91 (ckC d'),eBlk sb 109 [.int .i64 s.lo,.int .i64 s.hi,.bool s.en],eMap (keyC (K := m.ac.length)) veI sm (idxC (ls ++ [c])),eCks (ls ++ [c]) (.slice A2' (ls ++ [c]).length c2'),eMapR (keyC (K := m.ac.length)) veS nb (fun u : CkK m.ac.length => (onF m i s F (ls ++ [c])) u.1),eMc m q,e1,e2] w9) := by first | exact S12 | (have h := S12; rw [← HLN.out] at h; exact h)
        clear S12 S11
        go_wp2_with fail
        go_roundw
        case rel => exact ⟨ls ++ [c],d',A2',c2',by rw [HLN.out],ON.out,S13.out⟩
        case measure => simp [lenOf]; omega
section
theorem tks_ok {m : Md} (hm : m.Ok) : ∀ (k : Nat) (ls : List Ck) (c : Ck),ls.Nodup → (∀ x,x ∈ ls → m.Is x) → m.Is c → (tks m k ls c).1.Nodup ∧ ∀ x,x ∈ (tks m k ls c).1 → m.Is x
 | 0,ls,c,h1,h2,_ => ⟨h1,h2⟩
 | k + 1,ls,c,h1,h2,h3 => by
   unfold tks
   by_cases hin : c ∈ ls
   · rw [if_pos hin]; exact ⟨h1,h2⟩
   · rw [if_neg hin]
     have n1 : (ls ++ [c]).Nodup := by
      rw [List.nodup_append]
      exact ⟨h1,by simp,fun a ha b hb e => by simp at hb; subst hb; subst e; exact hin ha⟩
     have n2 : ∀ x,x ∈ ls ++ [c] → m.Is x := fun x hx => by
      rcases List.mem_append.1 hx with g | g
      · exact h2 x g
      · simp at g; subst g; exact h3
     cases ht : m.tick c with
     | none => exact ⟨n1,n2⟩
     | some d => exact tks_ok hm k _ d n1 n2 (h3.tick hm ht)
def SpOk (m : Md) (B : Int) (x : Ck × Sp) : Prop := m.Is x.1 ∧ (0 ≤ x.2.lo ∧ x.2.lo ≤ B) ∧ 0 ≤ x.2.hi ∧ x.2.hi ≤ B
theorem cnX_ok {m : Md} (hm : m.Ok) {i : Nat} {s : Sp} {b : Bool} {ls : List Ck} {k : Nat} {B : Int} (hl : ls.length ≤ 4000) (hi : ∀ x,x ∈ ls → m.Is x) (hs : (0 ≤ s.lo ∧ s.lo ≤ B) ∧ 0 ≤ s.hi ∧ s.hi ≤ B) {x : Ck × Sp} (hx : x ∈ cnX m i s b ls k) : SpOk m (B + 4000) x := by
 unfold cnX at hx
 cases h1 : ls[k]? with
 | none => rw [h1] at hx; simp at hx
 | some c =>
   rw [h1] at hx
   simp only at hx
   have hk := (List.getElem?_eq_some_iff.1 h1).1
   cases h2 : m.act c i with
   | none => rw [h2] at hx; simp at hx
   | some t =>
     rw [h2] at hx
     simp only [List.mem_singleton] at hx
     subst hx
     exact ⟨(hi c (List.mem_of_getElem? h1)).act hm h2,by dsimp only; omega,by dsimp only; omega,by dsimp only; omega⟩
theorem conV_ok {m : Md} (hm : m.Ok) (hf : Few m) {i : Nat} {c : Ck} {s : Sp} {B : Int} (hc : SpOk m B (c,s)) {x : Ck × Sp} (hx : x ∈ conV m i (c,s)) : SpOk m (B + 4000) x := by
 obtain ⟨h1,h2⟩ := tks_ok hm fuelT [] c (by simp) (by simp) hc.1
 have hl := hf _ h1 h2
 unfold conV at hx
 rcases List.mem_append.1 hx with g | g
 · unfold cnR at g
   obtain ⟨k,_,hk⟩ := List.mem_flatMap.1 g
   exact cnX_ok hm hl h2 hc.2 hk
 · cases ht : (tks m fuelT [] c).2 with
   | none => rw [ht] at g; simp at g
   | some j =>
     rw [ht] at g
     simp only at g
     unfold cnR at g
     obtain ⟨k,_,hk⟩ := List.mem_flatMap.1 g
     exact cnX_ok hm hl h2 hc.2 hk
theorem insS_ok {m : Md} {B : Int} {E : List (Ck × Sp)} {x : Ck × Sp} (hE : ∀ y,y ∈ E → SpOk m B y) (hx : SpOk m B x) : ∀ y,y ∈ insS E x → SpOk m B y := by
 intro y hy
 unfold insS at hy
 split at hy
 · obtain ⟨e,he,rfl⟩ := List.mem_map.1 hy
   have h1 := hE e he
   split
   · refine ⟨h1.1,?_,?_⟩
     · have := h1.2; have := hx.2; simp only [jn]; omega
     · have := h1.2; have := hx.2; simp only [jn]; omega
   · exact h1
 · rcases List.mem_append.1 hy with g | g
   · exact hE y g
   · simp at g; subst g; exact hx
theorem insL_ok {m : Md} {B : Int} {L : List (Ck × Sp)} (h : ∀ y,y ∈ L → SpOk m B y) : ∀ y,y ∈ insL L → SpOk m B y := by
 unfold insL
 have : ∀ E : List (Ck × Sp),(∀ y,y ∈ E → SpOk m B y) → ∀ y,y ∈ L.foldl insS E → SpOk m B y := by
  induction L with
  | nil => exact fun E h => h
  | cons x L ih => exact fun E hE => ih (fun y hy => h y (List.mem_cons_of_mem _ hy)) _ (insS_ok hE (h x List.mem_cons_self))
 exact this [] (by simp)
theorem nowV_ok {m : Md} (hm : m.Ok) (hf : Few m) (hn : 0 < m.a.n) (w : List Int) (k : Nat) (hk : k ≤ w.length) : ∀ y,y ∈ nowV m w k → SpOk m (4000 * k) y := by
 induction k with
 | zero =>
   intro y hy
   simp only [nowV,List.take_zero,List.foldl_nil,List.mem_singleton] at hy
   subst hy
   exact ⟨Md.Is.start hm hn,by simp,by simp⟩
 | succ k ih =>
   have hlt : k < w.length := by omega
   rw [nowV_next (List.getElem?_eq_getElem hlt)]
   refine insL_ok fun y hy => ?_
   obtain ⟨⟨c,s⟩,hx,hy⟩ := List.mem_flatMap.1 hy
   have := conV_ok hm hf (ih (by omega) _ hx) hy
   have e : 4000 * (k : Int) + 4000 = 4000 * ((k + 1 : Nat) : Int) := by omega
   rw [e] at this
   exact this
theorem allSp_snoc (L : List (Ck × Sp)) (x : Ck × Sp) : allSp (L ++ [x]) = some (jn (allSp L) x.2) := by unfold allSp; rw [List.foldl_append]; rfl
theorem allSp_none {L : List (Ck × Sp)} : allSp L = none ↔ L = [] := by
 rcases List.eq_nil_or_concat L with h | ⟨l,x,h⟩
 · subst h; simp [allSp]
 · subst h; rw [List.concat_eq_append,allSp_snoc]; simp
theorem allSp_ok {m : Md} {B : Int} {L : List (Ck × Sp)} (h : ∀ y,y ∈ L → SpOk m B y) {s : Sp} (hs : allSp L = some s) : (0 ≤ s.lo ∧ s.lo ≤ B) ∧ 0 ≤ s.hi ∧ s.hi ≤ B := by
 have key : ∀ n (L : List (Ck × Sp)) (s : Sp),L.length = n → (∀ y,y ∈ L → SpOk m B y) → allSp L = some s → (0 ≤ s.lo ∧ s.lo ≤ B) ∧ 0 ≤ s.hi ∧ s.hi ≤ B := by
  intro n
  induction n with
  | zero => intro L s hl _ hs; rw [List.length_eq_zero_iff.1 hl] at hs; simp [allSp] at hs
  | succ n ih =>
    intro L s hl h hs
    rcases List.eq_nil_or_concat L with e | ⟨l,x,e⟩
    · subst e; simp at hl
    · rw [List.concat_eq_append] at e
      subst e
      rw [allSp_snoc,Option.some.injEq] at hs
      have hx := (h x (by simp)).2
      cases hl2 : allSp l with
      | none => rw [hl2] at hs; subst hs; exact hx
      | some t =>
        have ht := ih l t (by simpa using hl) (fun y hy => h y (List.mem_append_left _ hy)) hl2
        rw [hl2] at hs
        subst hs
        simp only [jn]
        omega
 exact key _ L s rfl h hs
structure Done (E : List (Ck × Sp)) {K : Nat} (left : { c : Ck // c.2.length = K } → Bool) (D : List (Ck × Sp)) : Prop where
 nd : (D.map Prod.fst).Nodup
 len : ∀ x,x ∈ D → x.1.2.length = K
 iff : ∀ (u : { c : Ck // c.2.length = K }) s,(u.1,s) ∈ D ↔ lkS E u.1 = some s ∧ left u = false
section
variable {E D : List (Ck × Sp)} {K : Nat} {left : { c : Ck // c.2.length = K } → Bool}
theorem Done.start : Done E (fun u : { c : Ck // c.2.length = K } => (lkS E u.1).isSome) [] := ⟨by simp,by simp,fun u s => by
 constructor
 · intro h; simp at h
 · rintro ⟨h1,h2⟩; rw [h1] at h2; simp at h2⟩
theorem Done.next (h : Done E left D) (x : { c : Ck // c.2.length = K }) {s : Sp} (hl : left x = true) (hf : lkS E x.1 = some s) : Done E (fun y => left y && !decide (y = x)) (D ++ [(x.1,s)]) := by
 refine ⟨?_,fun y hy => ?_,fun u t => ?_⟩
 · rw [List.map_append,List.nodup_append]
   refine ⟨h.nd,by simp,fun a ha b hb e => ?_⟩
   simp at hb; subst hb; subst e
   obtain ⟨⟨c,t⟩,hy,h2⟩ := List.mem_map.1 ha
   simp only at h2
   subst h2
   have := ((h.iff x t).1 hy).2
   rw [hl] at this; cases this
 · rcases List.mem_append.1 hy with g | g
   · exact h.len y g
   · simp at g; subst g; exact x.2
 · rw [List.mem_append,h.iff]
   by_cases e : u = x
   · subst e
     simp only [hl,decide_true,List.mem_singleton,Prod.mk.injEq]
     constructor
     · rintro (⟨_,g⟩ | ⟨_,g⟩)
       · simp at g
       · subst g; exact ⟨hf,by simp⟩
     · rintro ⟨g,_⟩
       right
       first | exact ⟨rfl,Option.some.inj (g.symm.trans hf)⟩ | exact ⟨trivial,Option.some.inj (g.symm.trans hf)⟩
   · have : ¬ u.1 = x.1 := fun g => e (Subtype.ext g)
     simp [e,this]
theorem Done.perm (h : Done E left D) (hE : (E.map Prod.fst).Nodup) (hlen : ∀ x,x ∈ E → x.1.2.length = K) (hl : ∀ u,left u = false) : D.Perm E := by
 refine perm_of_done hE h.nd fun u s => ?_
 by_cases hu : u.2.length = K
 · rw [h.iff ⟨u,hu⟩ s]
   simp [hl]
 · constructor
   · intro g; exact absurd (h.len _ g) hu
   · intro g; exact absurd (hlen _ ((lkS_mem hE).1 g)) hu
end
end
end Go.Proofs.YtimdepdbcdbikaaGreat
