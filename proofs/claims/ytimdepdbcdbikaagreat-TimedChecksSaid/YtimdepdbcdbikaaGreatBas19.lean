/-
  timed.begin.
  timed.CheckState, Initial, Urgent.
-/
import Derived.Test.YtimdepdbcdbikaaGreatBas01
import Derived.Test.YtimdepdbcdbikaaGreatBas18
import Derived.Test.YtimdepdbcdbikaaGreatBas14
import Derived.BigQuiet
import Derived.Deep.MidRow
import Derived.Great.BuildSlice
set_option linter.unusedSimpArgs false
set_option linter.unusedVariables false
namespace Go.Proofs.YtimdepdbcdbikaaGreat
open Go.RowKit
set_option maxRecDepth 100000
def stE1 (m : Md) (c : Ck) (i : Nat) : Int := if tmr c i < 0 ∨ (m.at i).df < tmr c i then 2 else if tmr c i ≠ (m.at i).df ∧ m.pr c.1 i = false then 6 else 0
def stEk (m : Md) (c : Ck) : Nat → Int
 | 0 => 0
 | k + 1 => if stEk m c k = 0 then stE1 m c k else stEk m c k
def stE (m : Md) (c : Ck) : Int := if c.1 < 0 ∨ m.a.n ≤ c.1 then 2 else if c.2.length ≠ m.ac.length then 4 else stEk m c m.ac.length
theorem stEk_first {m : Md} {c : Ck} {k : Nat} (h : stEk m c k = 0) (hk : stE1 m c k ≠ 0) : ∀ n,k < n → stEk m c n = stE1 m c k := by
 intro n hn
 induction n with
 | zero => omega
 | succ n ih =>
   by_cases e : n = k
   · subst e; show (if stEk m c n = 0 then _ else _) = _; rw [if_pos h]
   · have h2 := ih (by omega)
     show (if stEk m c n = 0 then _ else _) = _
     rw [if_neg (by rw [h2]; exact hk),h2]
theorem stE_is {m : Md} (hm : m.Ok) {c : Ck} (h : stE m c = 0) : m.Is c := by
 unfold stE at h
 by_cases h1 : c.1 < 0 ∨ m.a.n ≤ c.1
 · rw [if_pos h1] at h; cases h
 · rw [if_neg h1] at h
   by_cases h2 : c.2.length ≠ m.ac.length
   · rw [if_pos h2] at h; cases h
   · rw [if_neg h2] at h
     refine ⟨by omega,by omega,fun i hi => ?_⟩
     have key : ∀ n,stEk m c n = 0 → ∀ j,j < n → stE1 m c j = 0 := by
      intro n
      induction n with
      | zero => intro _ j hj; omega
      | succ n ih =>
        intro hn j hj
        have hn : (if stEk m c n = 0 then stE1 m c n else stEk m c n) = 0 := hn
        by_cases e : stEk m c n = 0
        · rw [if_pos e] at hn
          by_cases g : j = n
          · subst g; exact hn
          · exact ih e j (by omega)
        · rw [if_neg e] at hn; exact absurd hn e
     have := key _ h i hi
     unfold stE1 at this
     by_cases g : tmr c i < 0 ∨ (m.at i).df < tmr c i
     · rw [if_pos g] at this; cases this
     · omega
def GivesBg (m : Md) (P : MdP) (c : Ck) (w : World) (e : Ending) (w' : World) : Prop :=
 (∃ r : Int,e = .returned (.tuple #[.pointer none,.agg (ckC (0,[])).toArray,.int .i64 r]) ∧ r = stE m c ∧ r ≠ 0 ∧ Below w.heap.size w w') ∨
 (∃ q : McP,e = .returned (.tuple #[.pointer (some ⟨q.g,0,none⟩),.agg (ckC c).toArray,.int .i64 0]) ∧ stE m c = 0 ∧ q.P = P ∧ q.bs.length = m.a.n.toNat ∧ Hid (Sep w.heap.size w [eMc m q] w'))
theorem GivesBg.bad {m : Md} {P : MdP} {c : Ck} {w w' : World} {r : Int} (h : stE m c = r) (h0 : r ≠ 0) (hb : Below w.heap.size w w') : GivesBg m P c w (.returned (.tuple #[.pointer none,.agg (ckC (0,[])).toArray,.int .i64 r])) w' := .inl ⟨r,rfl,h.symm,h0,hb⟩
theorem GivesBg.good {m : Md} {P : MdP} {c : Ck} {w w' : World} {q : McP} (h : stE m c = 0) (hp : q.P = P) (hq : q.bs.length = m.a.n.toNat) (S : Sep w.heap.size w [eMc m q] w') : GivesBg m P c w (.returned (.tuple #[.pointer (some ⟨q.g,0,none⟩),.agg (ckC c).toArray,.int .i64 0])) w' := .inr ⟨q,rfl,h,hp,hq,S⟩
theorem res_bg {fn : Func} {t p u : Tmp} (h : fn.results = #[.tmp t,.cell p 91,.tmp u]) {tmps : Array Value} {w : World} {g : Nat} {c : Ck} {v x : Value} (ht : tmps.getD t undef = v) (hp : tmps.getD p undef = .pointer (some ⟨g,0,none⟩)) (hu : tmps.getD u undef = x) (hb : BlkAt w g 91 (ckC c)) (hc : c.2.length ≤ 32) :
 (results fn tmps).run Tryz.prog w = .ok (.tuple #[v,.agg (ckC c).toArray,x]) w := by
 simp only [Array.getD_eq_getD_getElem?] at ht hp hu
 simp [results,h,ht,hp,hu,asAddr,run_ckVar hb hc,Result.andThen]
theorem ck_push {s : Int} {l : List Int} {k : Nat} {t : Int} (hk : k < 32) (h : l[k]? = some t) : (ckC (s,l.take k)).set (1 + k) (.int .i8 t) = ckC (s,l.take (k + 1)) := by
 have hlt := (List.getElem?_eq_some_iff.1 h).1
 have hl : (l.take k).length = k := by rw [List.length_take]; omega
 have e : (pad32 (l.take k)).set k t = pad32 (l.take (k + 1)) := by
  unfold pad32
  rw [take_snoc h,List.length_append,List.length_singleton,hl,List.set_append_right _ _ (by omega),hl,Nat.sub_self]
  obtain ⟨r,hr⟩ : ∃ r,32 - k = r + 1 := ⟨31 - k,by omega⟩
  rw [hr,List.replicate_succ,List.set_cons_zero,show 32 - (k + 1) = r by omega,List.append_assoc]
  rfl
 unfold ckC ckT
 dsimp only
 rw [Nat.add_comm,List.set_cons_succ,← e,List.map_set]
set_option maxHeartbeats 8000000 in
theorem begin_c (m : Md) (P : MdP) (c : Ck) (AT : Option Addr) (cp : Nat) (w : World) (hm : m.Ok) (hA : Md.At w m P) (hT : IntsAt w AT c.2) :
 Calls Tryz.prog 38 #[.agg (m.cells P).toArray,.agg #[.int .i64 c.1,.slice AT c.2.length cp]] w (GivesBg m P c w) := by
 have h32 := hm.len32
 have HM := Lib.hid hm
 have HA := Lib.hid hA
 have HT := Lib.hid hT
 obtain ⟨p,B,d⟩ := P
 clear hm hA hT
 go_enter Tryz.func38,Tryz.ntmps38
 obtain ⟨mb,hmb⟩ : ∃ g,g = w.heap.size := ⟨_,rfl⟩
 obtain ⟨sb,hsb⟩ : ∃ g,g = w.heap.size + 1 := ⟨_,rfl⟩
 obtain ⟨rb,hrb⟩ : ∃ g,g = w.heap.size + 1 + 1 := ⟨_,rfl⟩
 go_upto_region 1 with fail
 rw [← hrb,← hsb,← hmb]
 refine wp_world (fun W => Sep w.heap.size w [eBlk rb 91 (ckC (0,[])),eBlk sb 52 [.int .i64 c.1,.slice AT c.2.length cp],eBlk mb 37 [.slice p.A1 m.a.al.length p.c1,.int .i64 m.a.n,.slice p.A2 m.a.mr.length p.c2,.slice p.A3 m.a.ed.length p.c3,.slice B m.ac.length d,.int .i64 m.tk]] W) ((((Sep.here w).alloc' _ [_,_,_,_,_,_] rfl hmb).alloc' _ [_,_] rfl (by rw [hsb]; simp)).alloc' _ (ckC (0,[])) rfl (by rw [hrb]; simp)) fun W S => ?_
 have S0 := Lib.hid S
 clear S hmb hsb hrb
 have PC := check44_c m ⟨p,B,d⟩ W HM.out (HA.out.below S0.out.below)
 dsimp only [Md.cells] at PC
 have PC2 := Lib.hid PC
 have b0 := BlkAt.cell (S0.out.get 2 rfl) 0; have b1 := BlkAt.cell (S0.out.get 2 rfl) 1; have b2 := BlkAt.cell (S0.out.get 2 rfl) 2; have b3 := BlkAt.cell (S0.out.get 2 rfl) 3; have b4 := BlkAt.cell (S0.out.get 2 rfl) 4; have b5 := BlkAt.cell (S0.out.get 2 rfl) 5; simp only [List.getElem?_cons_succ,List.getElem?_cons_zero] at b0 b1 b2 b3 b4 b5
 clear PC
 go_wp2_with fail
 refine PC2.out.mono ?_
 rintro e1 w1 ⟨rfl,hb⟩
 have S1 := Lib.hid (S0.out.next hb)
 clear PC2 hb S0 b0 b1 b2 b3 b4 b5
 have b0 := BlkAt.cell (S1.out.get 2 rfl) 0; have b1 := BlkAt.cell (S1.out.get 2 rfl) 1; have b2 := BlkAt.cell (S1.out.get 2 rfl) 2; have b3 := BlkAt.cell (S1.out.get 2 rfl) 3; have b4 := BlkAt.cell (S1.out.get 2 rfl) 4; have b5 := BlkAt.cell (S1.out.get 2 rfl) 5; simp only [List.getElem?_cons_succ,List.getElem?_cons_zero] at b0 b1 b2 b3 b4 b5
 have s0 := BlkAt.cell (S1.out.get 1 rfl) 0; have s1 := BlkAt.cell (S1.out.get 1 rfl) 1; simp only [List.getElem?_cons_succ,List.getElem?_cons_zero] at s0 s1
 by_cases h1 : c.1 < 0
 · have hd1 : decide (c.1 < 0) = true := decide_eq_true h1
   have EB : Hid (stE m c = 2) := by rw [Hid]; unfold stE; rw [if_pos (.inl h1)]
   clear h1
   go_upto_region 5 with fail
   clear b0 b1 b2 b3 b4 b5 s0 s1
   have hbd : ∀ V,(Instr.build 91 #[]).run Tryz.prog V = .ok (.agg (ckC (0,[])).toArray) V := fun V => run_build V _ _ _ built_ckz
   go_wp2_with (refine wpList_ckAt (0,[]) (by simp) rfl _ _ rfl S1.out 0 rb (0,[]) (by simp) rfl rfl rfl ?_)
   intro w9 S9'
   have S9 := Lib.hid S9'
   clear S9' S1
   go_wp2_with fail
   refine bodyPost_ret (v := .tuple #[.pointer none,.agg (ckC (0,[])).toArray,.int .i64 2]) (res_bg Tryz.results38 rfl rfl rfl (S9.out.get 0 rfl) (by simp)) rfl ?_
   exact GivesBg.bad EB.out (by decide) S9.out.below
 · have hd1 : decide (c.1 < 0) = false := decide_eq_false h1
   by_cases h2 : m.a.n ≤ c.1
   · have hd2 : decide (m.a.n ≤ c.1) = true := decide_eq_true h2
     have EB : Hid (stE m c = 2) := by rw [Hid]; unfold stE; rw [if_pos (.inr h2)]
     clear h1 h2
     go_upto_region 5 with fail
     clear b0 b1 b2 b3 b4 b5 s0 s1
     have hbd : ∀ V,(Instr.build 91 #[]).run Tryz.prog V = .ok (.agg (ckC (0,[])).toArray) V := fun V => run_build V _ _ _ built_ckz
     go_wp2_with (refine wpList_ckAt (0,[]) (by simp) rfl _ _ rfl S1.out 0 rb (0,[]) (by simp) rfl rfl rfl ?_)
     intro w9 S9'
     have S9 := Lib.hid S9'
     clear S9' S1
     go_wp2_with fail
     refine bodyPost_ret (v := .tuple #[.pointer none,.agg (ckC (0,[])).toArray,.int .i64 2]) (res_bg Tryz.results38 rfl rfl rfl (S9.out.get 0 rfl) (by simp)) rfl ?_
     exact GivesBg.bad EB.out (by decide) S9.out.below
   · have hd2 : decide (m.a.n ≤ c.1) = false := decide_eq_false h2
     by_cases h3 : c.2.length = m.ac.length
     · have EK : Hid (stE m c = stEk m c m.ac.length) := by rw [Hid]; unfold stE; rw [if_neg (by omega),if_neg (by omega)]
       have HLL := Lib.hid h3
       have HL32 : Hid (c.2.length ≤ 32) := by rw [Hid]; omega
       have NC := newMachine_c m ⟨p,B,d⟩
       dsimp only [Md.cells] at NC
       have NC2 := Lib.hid NC
       obtain ⟨s,hs⟩ := Int.eq_ofNat_of_zero_le (a := c.1) (by omega)
       have hsN : s < m.a.n.toNat := by omega
       have HS := Lib.hid hs
       rw [h3]
       rw [h3] at s1
       clear NC h1 h2 h3 hs
       go_wp2_with fail
       refine (NC2.out _ HM.out (HA.out.below S1.out.below)).mono ?_
       rintro e2 w2 ⟨q,rfl,hqP,hqB,T⟩
       have S2 := Lib.hid (S1.out.news T.out)
       have HQP := Lib.hid hqP
       have HQB := Lib.hid hqB
       have HQ : Hid (∀ V,Below w.heap.size w V → (eMc m q).ok V → Mch V m q) := fun V hb he => Mch.of he (by rw [HQP.out]; exact HA.out.below hb) HQB.out
       clear NC2 T S1 hqP hqB b0 b1 b2 b3 b4 b5 s0 s1 hd1 hd2
       have s0 := BlkAt.cell (S2.out.get 2 rfl) 0
       simp only [List.append_eq,List.nil_append,List.cons_append,List.getElem?_cons_succ,List.getElem?_cons_zero] at s0 S2
       rw [HLL.out] at S2
       obtain ⟨cb,hcb⟩ : ∃ g,g = w2.heap.size := ⟨_,rfl⟩
       go_upto_region 10 with (first | refine wpList_buildTo rfl 91 _ rfl (some 42) rfl (ckC (c.1,[])).toArray (Eq.trans (congrArg _ (by kernel_rfl)) (built_ck0 c.1)) ?_ | refine wpList_ckNew (c.1,[]) (by simp) rfl _ _ rfl _ rfl rfl (by kernel_rfl) ?_)
       rw [← hcb]
       refine wp_world (fun V => Hid (Sep w.heap.size w [eBlk cb 91 (ckC (c.1,c.2.take 0)),eMc m q,eBlk rb 91 (ckC (0,[])),eBlk sb 52 [.int .i64 c.1,.slice AT m.ac.length cp],eBlk mb 37 [.slice p.A1 m.a.al.length p.c1,.int .i64 m.a.n,.slice p.A2 m.a.mr.length p.c2,.slice p.A3 m.a.ed.length p.c3,.slice B m.ac.length d,.int .i64 m.tk]] V)) (S2.out.alloc' _ (ckC (c.1,[])) rfl hcb) fun W3 S => ?_
       have S3 := Lib.hid S.out
       clear S S2 hcb s0
       have s0 := BlkAt.cell (S3.out.get 3 rfl) 0; have s1 := BlkAt.cell (S3.out.get 3 rfl) 1; simp only [List.getElem?_cons_succ,List.getElem?_cons_zero] at s0 s1
       go_wp2_with fail
       clear s0 s1
       go_loopw [46] (fun i wr => ∃ k : Nat,i = .int .i64 (k : Int) ∧ k ≤ m.ac.length ∧ Hid (stEk m c k = 0) ∧ Hid (Sep w.heap.size w [eBlk cb 91 (ckC (c.1,c.2.take k)),eMc m q,eBlk rb 91 (ckC (0,[])),eBlk sb 52 [.int .i64 c.1,.slice AT m.ac.length cp],eBlk mb 37 [.slice p.A1 m.a.al.length p.c1,.int .i64 m.a.n,.slice p.A2 m.a.mr.length p.c2,.slice p.A3 m.a.ed.length p.c3,.slice B m.ac.length d,.int .i64 m.tk]] wr)) (fun i _ => m.ac.length - (intOf i).toNat)
       case atStart => exact ⟨0,rfl,Nat.zero_le _,rfl,S3.out⟩
       case round =>
        clear S3
        obtain ⟨k,rfl,hk,HE,S⟩ := hrel
        by_cases hlt : k < m.ac.length
        · obtain ⟨gt,ot,y,hTT,hgt,hy,y0⟩ := IntsAt.at (HT.out.below IntE.stays S.out.below) (k := k) (by rw [HLL.out]; exact hlt)
          have HTM : Hid (tmr c k = y) := by
           have h1 := tmr_get (c := c) (i := k) (by rw [HLL.out]; exact hlt)
           rw [hy] at h1
           exact (Option.some.inj h1).symm
          subst hTT
          have HQ1 := Lib.hid (HQ.out wr S.out.below (S.out.get 1 rfl))
          have hdfr := HM.out.df hlt
          obtain ⟨f,hf⟩ : ∃ f,f = (m.at k).df := ⟨_,rfl⟩
          have kd : wr.cell? ⟨q.g,6 + k,none⟩ = some (.int .i8 f) := by
           have h := HQ1.out.dfRange h32 k (.int .i8 f) (by rw [ckT_get (by simp [Md.dfs]; exact hlt),hf,← Md.dfs_at hlt 0]; rfl)
           exact h
          rw [← hf] at hdfr
          have HY := Lib.hid hy
          have hwf : IntKind.i64.wrap f = f := IntWalk.i64_in _ (by omega)
          have hwk : IntKind.i64.wrap ((k : Int) + 1) = (k : Int) + 1 := IntWalk.i64_in _ (by omega)
          have hi3 : (k : Int) < 32 := by omega
          have E1 : Hid (stE1 m c k = if y < 0 ∨ f < y then 2 else if y ≠ f ∧ m.pr c.1 k = false then 6 else 0) := by rw [Hid]; unfold stE1; rw [HTM.out,hf]
          have EF : Hid (stE1 m c k ≠ 0 → stE m c = stE1 m c k) := fun h => by rw [EK.out]; exact stEk_first HE.out h _ hlt
          clear hy hf hgt
          by_cases hy0 : y < 0
          · have hd : decide (y < 0) = true := decide_eq_true hy0
            have e1 : stE1 m c k = 2 := by rw [E1.out,if_pos (.inl hy0)]
            have EB : Hid (stE m c = 2) := by rw [Hid,EF.out (by rw [e1]; decide),e1]
            have S4 := Lib.hid (S.out.pick [2] (by decide))
            clear S e1 hy0
            go_upto_region 14 with fail
            clear y0 kd
            have hbd : ∀ V,(Instr.build 91 #[]).run Tryz.prog V = .ok (.agg (ckC (0,[])).toArray) V := fun V => run_build V _ _ _ built_ckz
            go_wp2_with (refine wpList_ckAt (0,[]) (by simp) rfl _ _ rfl S4.out 0 rb (0,[]) (by simp) rfl rfl rfl ?_)
            intro w9 S9'
            have S9 := Lib.hid S9'
            clear S9' S4
            go_wp2_with fail
            refine bodyPost_ret (v := .tuple #[.pointer none,.agg (ckC (0,[])).toArray,.int .i64 2]) (res_bg Tryz.results38 rfl rfl rfl (S9.out.get 0 rfl) (by simp)) rfl ?_
            exact GivesBg.bad EB.out (by decide) S9.out.below
          · have hd : decide (y < 0) = false := decide_eq_false hy0
            by_cases hyf : f < y
            · have hd2 : decide (f < y) = true := decide_eq_true hyf
              have e1 : stE1 m c k = 2 := by rw [E1.out,if_pos (.inr hyf)]
              have EB : Hid (stE m c = 2) := by rw [Hid,EF.out (by rw [e1]; decide),e1]
              have S4 := Lib.hid (S.out.pick [2] (by decide))
              clear S e1 hy0 hyf
              go_upto_region 14 with fail
              clear y0 kd
              have hbd : ∀ V,(Instr.build 91 #[]).run Tryz.prog V = .ok (.agg (ckC (0,[])).toArray) V := fun V => run_build V _ _ _ built_ckz
              go_wp2_with (refine wpList_ckAt (0,[]) (by simp) rfl _ _ rfl S4.out 0 rb (0,[]) (by simp) rfl rfl rfl ?_)
              intro w9 S9'
              have S9 := Lib.hid S9'
              clear S9' S4
              go_wp2_with fail
              refine bodyPost_ret (v := .tuple #[.pointer none,.agg (ckC (0,[])).toArray,.int .i64 2]) (res_bg Tryz.results38 rfl rfl rfl (S9.out.get 0 rfl) (by simp)) rfl ?_
              exact GivesBg.bad EB.out (by decide) S9.out.below
            · have hd2 : decide (f < y) = false := decide_eq_false hyf
              have hw8 : IntKind.i8.wrap y = y := IntWalk.i8_in _ (by omega)
              obtain ⟨bt,ot2,b,hA2⟩ := HQ1.out.atS h32 hsN
              have HPR : Hid (m.pr c.1 k = decide (0 ≤ m.nx s k)) := by rw [Hid]; unfold Md.pr; rw [HS.out]
              have k1 := hA2.to_
              have k2 := hA2.row
              have k3 := hA2.nx k hlt
              have k4 := hA2.lt
              have ks : wr.cell? ⟨sb,0,none⟩ = some (.int .i64 (s : Int)) := by rw [← HS.out]; exact BlkAt.cell (S.out.get 3 rfl) 0
              obtain ⟨z,hz⟩ : ∃ z,z = m.nx s k := ⟨_,rfl⟩
              rw [← hz] at k3 HPR
              clear hA2 hz
              go_upto_region 15 with fail
              go_cut [87] (fun v wx => v = .bool ((y != f) && decide (z < 0)) ∧ Hid (Sep w.heap.size w [eBlk cb 91 (ckC (c.1,c.2.take k)),eMc m q,eBlk rb 91 (ckC (0,[])),eBlk sb 52 [.int .i64 c.1,.slice (some ⟨gt,ot,none⟩) m.ac.length cp],eBlk mb 37 [.slice p.A1 m.a.al.length p.c1,.int .i64 m.a.n,.slice p.A2 m.a.mr.length p.c2,.slice p.A3 m.a.ed.length p.c3,.slice B m.ac.length d,.int .i64 m.tk]] wx))
              case first =>
               by_cases hyq : y = f
               · have hne : (y != f) = false := by rw [hyq]; simp
                 clear hyq
                 go_quiet (fail)
                 go_wp2_with fail
                 go_meet
                 exact ⟨by rw [hne]; rfl,S.out.draws _⟩
               · have hne : (y != f) = true := by simpa using hyq
                 clear hyq
                 by_cases hz0 : z < 0
                 · have hdz : decide (z < 0) = true := decide_eq_true hz0
                   clear hz0
                   go_quiet (fail)
                   go_wp2_with fail
                   go_meet
                   exact ⟨by rw [hne,hdz]; rfl,S.out.draws _⟩
                 · have hdz : decide (z < 0) = false := decide_eq_false hz0
                   clear hz0
                   go_quiet (fail)
                   go_wp2_with fail
                   go_meet
                   exact ⟨by rw [hne,hdz]; rfl,S.out.draws _⟩
              case rest =>
               clear S HQ1 k1 k2 k3 k4 ks kd y0
               obtain ⟨rfl,S⟩ := hcut
               obtain ⟨v,hv⟩ : ∃ v,v = ((y != f) && decide (z < 0)) := ⟨_,rfl⟩
               rw [← hv]
               have HV := Lib.hid hv
               clear hv
               cases v
               · have e1 : stE1 m c k = 0 := by
                  rw [E1.out,if_neg (by omega),if_neg]
                  rintro ⟨g1,g2⟩
                  have h1 : (y != f) = true := by simpa using g1
                  have h2 : decide (z < 0) = true := by
                   rw [HPR.out] at g2
                   have := of_decide_eq_false g2
                   exact decide_eq_true (by omega)
                  have := HV.out
                  rw [h1,h2] at this; cases this
                 have HE2 : Hid (stEk m c (k + 1) = 0) := by show (if stEk m c k = 0 then _ else _) = _; rw [if_pos HE.out,e1]
                 have kc := BlkAt.cell (S.out.get 0 rfl) (1 + k)
                 have kf := BlkAt.free (S.out.get 0 rfl) (1 + k)
                 have hcl : (ckC (c.1,c.2.take k)).length = 33 := ckC_len (by rw [List.length_take]; omega)
                 obtain ⟨u0,hu0⟩ : ∃ u0,(ckC (c.1,c.2.take k))[1 + k]? = some u0 := ⟨_,List.getElem?_eq_getElem (by omega)⟩
                 rw [hu0] at kc
                 have S5 : Hid (Sep w.heap.size w [eBlk cb 91 (ckC (c.1,c.2.take (k + 1))),eMc m q,eBlk rb 91 (ckC (0,[])),eBlk sb 52 [.int .i64 c.1,.slice (some ⟨gt,ot,none⟩) m.ac.length cp],eBlk mb 37 [.slice p.A1 m.a.al.length p.c1,.int .i64 m.a.n,.slice p.A2 m.a.mr.length p.c2,.slice p.A3 m.a.ed.length p.c3,.slice B m.ac.length d,.int .i64 m.tk]] (wc.setCell ⟨cb,1 + k,none⟩ (.int .i8 y))) := by
                  have h := S.out.set 0 rfl (1 + k) (.int .i8 y)
                  rw [ck_push (by omega) HY.out] at h
                  exact h
                 clear S hcl hu0 e1
                 go_wp2_with fail
                 go_roundw
                 case rel => exact ⟨k + 1,by go_num,by omega,HE2.out,S5.out⟩
                 case measure => simp [intOf]; omega
               · have h1 : (y != f) = true ∧ decide (z < 0) = true := by
                  have := HV.out.symm
                  simpa using this
                 have e1 : stE1 m c k = 6 := by
                  rw [E1.out,if_neg (by omega),if_pos]
                  refine ⟨by simpa using h1.1,?_⟩
                  rw [HPR.out]
                  have := of_decide_eq_true h1.2
                  exact decide_eq_false (by omega)
                 have EB : Hid (stE m c = 6) := by rw [Hid,EF.out (by rw [e1]; decide),e1]
                 have S4 := Lib.hid (S.out.pick [2] (by decide))
                 clear S e1 h1
                 go_upto_region 16 with fail
                 have hbd : ∀ V,(Instr.build 91 #[]).run Tryz.prog V = .ok (.agg (ckC (0,[])).toArray) V := fun V => run_build V _ _ _ built_ckz
                 go_wp2_with (refine wpList_ckAt (0,[]) (by simp) rfl _ _ rfl S4.out 0 rb (0,[]) (by simp) rfl rfl rfl ?_)
                 intro w9 S9'
                 have S9 := Lib.hid S9'
                 clear S9' S4
                 go_wp2_with fail
                 refine bodyPost_ret (v := .tuple #[.pointer none,.agg (ckC (0,[])).toArray,.int .i64 6]) (res_bg Tryz.results38 rfl rfl rfl (S9.out.get 0 rfl) (by simp)) rfl ?_
                 exact GivesBg.bad EB.out (by decide) S9.out.below
        · obtain rfl : k = m.ac.length := by omega
          have ST0 : Hid (stE m c = 0) := by rw [Hid,EK.out,HE.out]
          have HTA : Hid (c.2.take m.ac.length = c.2) := by rw [Hid,← HLL.out,List.take_length]
          have S1 : Hid (Sep w.heap.size w [eBlk cb 91 (ckC c),eMc m q,eBlk rb 91 (ckC (0,[])),eBlk sb 52 [.int .i64 c.1,.slice AT m.ac.length cp],eBlk mb 37 [.slice p.A1 m.a.al.length p.c1,.int .i64 m.a.n,.slice p.A2 m.a.mr.length p.c2,.slice p.A3 m.a.ed.length p.c3,.slice B m.ac.length d,.int .i64 m.tk]] wr) := by
           have h := S.out
           rw [HTA.out] at h
           exact h
          clear S
          go_upto_region 19 with fail
          have S1 := Lib.hid S1.out.drew
          refine wp_region_held_drew (S := (fun V => Sep w.heap.size w [eBlk cb 91 (ckC c)] V)) (by kernel_rfl) ?_ (fun hHeld => ?_)
          · exact S1.out.pick [0] (by decide)
          generalize hwz : wr.drew = w1 at *
          clear hwz
          refine tkP 0 rfl hHeld ?_
          try simp only [sx]
          refine wpAnyH_take (i := 1) (v := _) rfl (by kernel_rfl) (by kernel_rfl) (by kernel_rfl) (fun _ _ _ h => h) (yieldsIf_load_mid (by kernel_rfl) 91 (.tmp 9) rfl cb 0 rfl (ckC c) _ (fun V hSw => range_of (Sep.get (show Sep w.heap.size w _ V from hSw) 0 rfl)) Tryz.underlying91 rfl (by rw [ck_info,ckC_len HL32.out])) hHeld ?_
          try simp only [sx]
          refine tkP 2 rfl hHeld ?_
          try simp only [sx]
          refine rdH 3 rfl fun K hK => ?_
          refine step_ckAt c HL32.out rfl (.tmp 5) (.tmp 96) rfl S1.out 2 rb (0,[]) (by simp) rfl rfl rfl ?_
          intro w2 S2'
          have S2 : Hid (Sep w.heap.size w [eBlk cb 91 (ckC c),eMc m q,eBlk rb 91 (ckC c),eBlk sb 52 [.int .i64 c.1,.slice AT m.ac.length cp],eBlk mb 37 [.slice p.A1 m.a.al.length p.c1,.int .i64 m.a.n,.slice p.A2 m.a.mr.length p.c2,.slice p.A3 m.a.ed.length p.c3,.slice B m.ac.length d,.int .i64 m.tk]] w2) := S2'
          clear S2'
          refine hK.out _ _ ?_ (fun hHeld => ?_)
          · exact S2.out.pick [0] (by decide)
          clear hK K
          try simp only [sx]
          refine tkP 4 rfl hHeld ?_
          try simp only [sx]
          refine wpAnyH_done (by kernel_rfl) ?_ _
          go_wp2_with fail
          refine bodyPost_ret (v := .tuple #[.pointer (some ⟨q.g,0,none⟩),.agg (ckC c).toArray,.int .i64 0]) (res_bg Tryz.results38 rfl rfl rfl (S2.out.get 2 rfl) HL32.out) rfl ?_
          exact GivesBg.good ST0.out HQP.out HQB.out (S2.out.pick [1] (by decide))
     · have EB : Hid (stE m c = 4) := by rw [Hid]; unfold stE; rw [if_neg (by omega),if_pos h3]
       have hn1 : ((c.2.length : Int) != (m.ac.length : Int)) = true := by simp; omega
       have hn2 : (c.2.length != m.ac.length) = true := by simpa using h3
       clear h1 h2
       go_upto_region 7 with fail
       clear b0 b1 b2 b3 b4 b5 s0 s1
       have hbd : ∀ V,(Instr.build 91 #[]).run Tryz.prog V = .ok (.agg (ckC (0,[])).toArray) V := fun V => run_build V _ _ _ built_ckz
       go_wp2_with (refine wpList_ckAt (0,[]) (by simp) rfl _ _ rfl S1.out 0 rb (0,[]) (by simp) rfl rfl rfl ?_)
       intro w9 S9'
       have S9 := Lib.hid S9'
       clear S9' S1
       go_wp2_with fail
       refine bodyPost_ret (v := .tuple #[.pointer none,.agg (ckC (0,[])).toArray,.int .i64 4]) (res_bg Tryz.results38 rfl rfl rfl (S9.out.get 0 rfl) (by simp)) rfl ?_
       exact GivesBg.bad EB.out (by decide) S9.out.below
set_option maxHeartbeats 4000000 in
theorem checkState_c (m : Md) (P : MdP) (c : Ck) (AT : Option Addr) (cp : Nat) (w : World) (hm : m.Ok) (hA : Md.At w m P) (hT : IntsAt w AT c.2) :
 Calls Tryz.prog 19 #[.agg (m.cells P).toArray,.agg #[.int .i64 c.1,.slice AT c.2.length cp]] w (Ret (.int .i64 (stE m c)) w) := by
 have h32 := hm.len32
 have HM := Lib.hid hm
 have HA := Lib.hid hA
 have HT := Lib.hid hT
 obtain ⟨p,B,d⟩ := P
 clear hm hA hT
 go_enter Tryz.func19,Tryz.ntmps19
 obtain ⟨mb,hmb⟩ : ∃ g,g = w.heap.size := ⟨_,rfl⟩
 obtain ⟨sb,hsb⟩ : ∃ g,g = w.heap.size + 1 := ⟨_,rfl⟩
 go_upto_region 1 with fail
 rw [← hsb,← hmb]
 refine wp_world (fun W => Sep w.heap.size w [eBlk sb 52 [.int .i64 c.1,.slice AT c.2.length cp],eBlk mb 37 [.slice p.A1 m.a.al.length p.c1,.int .i64 m.a.n,.slice p.A2 m.a.mr.length p.c2,.slice p.A3 m.a.ed.length p.c3,.slice B m.ac.length d,.int .i64 m.tk]] W) (((Sep.here w).alloc' _ [_,_,_,_,_,_] rfl hmb).alloc' _ [_,_] rfl (by rw [hsb]; simp)) fun W S => ?_
 have S0 := Lib.hid S
 clear S hmb hsb
 have b0 := BlkAt.cell (S0.out.get 1 rfl) 0; have b1 := BlkAt.cell (S0.out.get 1 rfl) 1; have b2 := BlkAt.cell (S0.out.get 1 rfl) 2; have b3 := BlkAt.cell (S0.out.get 1 rfl) 3; have b4 := BlkAt.cell (S0.out.get 1 rfl) 4; have b5 := BlkAt.cell (S0.out.get 1 rfl) 5; simp only [List.getElem?_cons_succ,List.getElem?_cons_zero] at b0 b1 b2 b3 b4 b5
 have s0 := BlkAt.cell (S0.out.get 0 rfl) 0; have s1 := BlkAt.cell (S0.out.get 0 rfl) 1; simp only [List.getElem?_cons_succ,List.getElem?_cons_zero] at s0 s1
 have BG := begin_c m ⟨p,B,d⟩ c AT cp W HM.out (HA.out.below S0.out.below) (HT.out.below IntE.stays S0.out.below)
 dsimp only [Md.cells] at BG
 have BG2 := Lib.hid BG
 clear BG
 go_wp2_with fail
 refine BG2.out.mono ?_
 intro e1 w1 hbg
 clear BG2 b0 b1 b2 b3 b4 b5 s0 s1
 rcases hbg with ⟨r,rfl,hr,hr0,hb⟩ | ⟨q,rfl,h0,hqP,hqB,T⟩
 · have S1 := Lib.hid (S0.out.next hb)
   have HR := Lib.hid hr
   clear hr hr0 hb S0
   obtain ⟨cb,hcb⟩ : ∃ g,g = w1.heap.size := ⟨_,rfl⟩
   go_upto_region 2 with (refine wpList_ckNew (0,[]) (by simp) rfl _ _ rfl _ rfl rfl (by kernel_rfl) ?_)
   rw [← hcb]
   refine wp_world (fun V => Hid (Sep w.heap.size w [eBlk cb 91 (ckC (0,[])),eBlk sb 52 [.int .i64 c.1,.slice AT c.2.length cp],eBlk mb 37 [.slice p.A1 m.a.al.length p.c1,.int .i64 m.a.n,.slice p.A2 m.a.mr.length p.c2,.slice p.A3 m.a.ed.length p.c3,.slice B m.ac.length d,.int .i64 m.tk]] V)) (S1.out.alloc' _ (ckC (0,[])) rfl hcb) fun W3 S => ?_
   have S3 := Lib.hid S.out
   clear S S1 hcb
   go_wp2_with fail
   go_ret
   exact ⟨by rw [← HR.out]; rfl,S3.out.below⟩
 · have S1 := Lib.hid (S0.out.news T.out)
   have HST := Lib.hid h0
   have HQP := Lib.hid hqP
   have HQB := Lib.hid hqB
   have HQ : Hid (∀ V,Below w.heap.size w V → (eMc m q).ok V → Mch V m q) := fun V hb he => Mch.of he (by rw [HQP.out]; exact HA.out.below hb) HQB.out
   have HC : Hid (m.Is c) := stE_is HM.out h0
   have hc32 : c.2.length ≤ 32 := by rw [HC.out.len]; exact h32
   clear h0 hqP hqB T S0
   simp only [List.append_eq,List.nil_append,List.cons_append] at S1
   obtain ⟨cb,hcb⟩ : ∃ g,g = w1.heap.size := ⟨_,rfl⟩
   go_upto_region 2 with (refine wpList_ckNew c hc32 rfl _ _ rfl _ rfl rfl (by kernel_rfl) ?_)
   rw [← hcb]
   refine wp_world (fun V => Hid (Sep w.heap.size w [eBlk cb 91 (ckC c),eMc m q,eBlk sb 52 [.int .i64 c.1,.slice AT c.2.length cp],eBlk mb 37 [.slice p.A1 m.a.al.length p.c1,.int .i64 m.a.n,.slice p.A2 m.a.mr.length p.c2,.slice p.A3 m.a.ed.length p.c3,.slice B m.ac.length d,.int .i64 m.tk]] V)) (S1.out.alloc' _ (ckC c) rfl hcb) fun W3 S => ?_
   have S3 := Lib.hid S.out
   clear S S1 hcb
   go_wp2_with fail
   go_ret
   exact ⟨by rw [HST.out]; rfl,S3.out.below⟩
def GivesIn (c : Ck) (w : World) (e : Ending) (w' : World) : Prop := ∃ (A : Option Addr) (cp : Nat),e = .returned (.tuple #[.agg #[.int .i64 c.1,.slice A c.2.length cp],.int .i64 0]) ∧ Hid (Sep w.heap.size w [eInts c.2 (.slice A c.2.length cp)] w')
def urP (m : Md) (c : Ck) : List Int := if stE m c = 0 then urgL m c m.ac.length else []
def GivesLE (l : List Int) (r : Int) (w : World) (e : Ending) (w' : World) : Prop := ∃ (A : Option Addr) (cp : Nat),e = .returned (.tuple #[.slice A l.length cp,.int .i64 r]) ∧ Hid (Sep w.heap.size w [eInts l (.slice A l.length cp)] w')
set_option maxHeartbeats 4000000 in
theorem urgentP_c (m : Md) (P : MdP) (c : Ck) (AT : Option Addr) (cp : Nat) (w : World) (hm : m.Ok) (hA : Md.At w m P) (hT : IntsAt w AT c.2) :
 Calls Tryz.prog 16 #[.agg (m.cells P).toArray,.agg #[.int .i64 c.1,.slice AT c.2.length cp]] w (GivesLE (urP m c) (stE m c) w) := by
 have h32 := hm.len32
 have HM := Lib.hid hm
 have HA := Lib.hid hA
 have HT := Lib.hid hT
 obtain ⟨p,B,d⟩ := P
 clear hm hA hT
 go_enter Tryz.func16,Tryz.ntmps16
 obtain ⟨mb,hmb⟩ : ∃ g,g = w.heap.size := ⟨_,rfl⟩
 obtain ⟨sb,hsb⟩ : ∃ g,g = w.heap.size + 1 := ⟨_,rfl⟩
 go_upto_region 1 with fail
 rw [← hsb,← hmb]
 refine wp_world (fun W => Sep w.heap.size w [eBlk sb 52 [.int .i64 c.1,.slice AT c.2.length cp],eBlk mb 37 [.slice p.A1 m.a.al.length p.c1,.int .i64 m.a.n,.slice p.A2 m.a.mr.length p.c2,.slice p.A3 m.a.ed.length p.c3,.slice B m.ac.length d,.int .i64 m.tk]] W) (((Sep.here w).alloc' _ [_,_,_,_,_,_] rfl hmb).alloc' _ [_,_] rfl (by rw [hsb]; simp)) fun W S => ?_
 have S0 := Lib.hid S
 clear S hmb hsb
 have b0 := BlkAt.cell (S0.out.get 1 rfl) 0; have b1 := BlkAt.cell (S0.out.get 1 rfl) 1; have b2 := BlkAt.cell (S0.out.get 1 rfl) 2; have b3 := BlkAt.cell (S0.out.get 1 rfl) 3; have b4 := BlkAt.cell (S0.out.get 1 rfl) 4; have b5 := BlkAt.cell (S0.out.get 1 rfl) 5; simp only [List.getElem?_cons_succ,List.getElem?_cons_zero] at b0 b1 b2 b3 b4 b5
 have s0 := BlkAt.cell (S0.out.get 0 rfl) 0; have s1 := BlkAt.cell (S0.out.get 0 rfl) 1; simp only [List.getElem?_cons_succ,List.getElem?_cons_zero] at s0 s1
 have BG := begin_c m ⟨p,B,d⟩ c AT cp W HM.out (HA.out.below S0.out.below) (HT.out.below IntE.stays S0.out.below)
 dsimp only [Md.cells] at BG
 have BG2 := Lib.hid BG
 clear BG
 go_wp2_with fail
 refine BG2.out.mono ?_
 intro e1 w1 hbg
 clear BG2 b0 b1 b2 b3 b4 b5 s0 s1
 rcases hbg with ⟨r,rfl,hr,hr0,hb⟩ | ⟨q,rfl,h0,hqP,hqB,T⟩
 · have S1 := Lib.hid (S0.out.next hb)
   have HR := Lib.hid hr
   have hne : (r != 0) = true := by simpa using hr0
   clear hr hr0 hb S0
   obtain ⟨cb,hcb⟩ : ∃ g,g = w1.heap.size := ⟨_,rfl⟩
   go_upto_region 2 with (refine wpList_ckNew (0,[]) (by simp) rfl _ _ rfl _ rfl rfl (by kernel_rfl) ?_)
   rw [← hcb]
   refine wp_world (fun V => Hid (Sep w.heap.size w [eBlk cb 91 (ckC (0,[])),eBlk sb 52 [.int .i64 c.1,.slice AT c.2.length cp],eBlk mb 37 [.slice p.A1 m.a.al.length p.c1,.int .i64 m.a.n,.slice p.A2 m.a.mr.length p.c2,.slice p.A3 m.a.ed.length p.c3,.slice B m.ac.length d,.int .i64 m.tk]] V)) (S1.out.alloc' _ (ckC (0,[])) rfl hcb) fun W3 S => ?_
   have S3 := Lib.hid S.out
   clear S S1 hcb
   go_wp2_with fail
   go_ret2
   have e1 : urP m c = [] := by unfold urP; rw [if_neg]; rw [← HR.out]; simpa using hne
   rw [e1,← HR.out]
   exact ⟨none,0,rfl,(S3.out.nil).nilOwn encI 1 3⟩
 · have S1 := Lib.hid (S0.out.news T.out)
   have HST := Lib.hid h0
   have HQP := Lib.hid hqP
   have HQB := Lib.hid hqB
   have HQ : Hid (∀ V,Below w.heap.size w V → (eMc m q).ok V → Mch V m q) := fun V hb he => Mch.of he (by rw [HQP.out]; exact HA.out.below hb) HQB.out
   have HC : Hid (m.Is c) := stE_is HM.out h0
   have hc32 : c.2.length ≤ 32 := by rw [HC.out.len]; exact h32
   clear h0 hqP hqB T S0
   simp only [List.append_eq,List.nil_append,List.cons_append] at S1
   obtain ⟨cb,hcb⟩ : ∃ g,g = w1.heap.size := ⟨_,rfl⟩
   go_upto_region 2 with (refine wpList_ckNew c hc32 rfl _ _ rfl _ rfl rfl (by kernel_rfl) ?_)
   rw [← hcb]
   refine wp_world (fun V => Hid (Sep w.heap.size w [eBlk cb 91 (ckC c),eMc m q,eBlk sb 52 [.int .i64 c.1,.slice AT c.2.length cp],eBlk mb 37 [.slice p.A1 m.a.al.length p.c1,.int .i64 m.a.n,.slice p.A2 m.a.mr.length p.c2,.slice p.A3 m.a.ed.length p.c3,.slice B m.ac.length d,.int .i64 m.tk]] V)) (S1.out.alloc' _ (ckC c) rfl hcb) fun W3 S => ?_
   have S3 : Hid (Sep w.heap.size w [eInts (urgL m c 0) (.slice none (urgL m c 0).length 0),eBlk cb 91 (ckC c),eMc m q,eBlk sb 52 [.int .i64 c.1,.slice AT c.2.length cp],eBlk mb 37 [.slice p.A1 m.a.al.length p.c1,.int .i64 m.a.n,.slice p.A2 m.a.mr.length p.c2,.slice p.A3 m.a.ed.length p.c3,.slice B m.ac.length d,.int .i64 m.tk]] W3) := S.out.nilOwn encI 1 3
   clear S S1 hcb
   have b4 := BlkAt.cell (S3.out.get 4 rfl) 4; simp only [List.getElem?_cons_succ,List.getElem?_cons_zero] at b4
   go_wp2_with fail
   clear b4
   go_loopw [9,25] (fun v i wr => ∃ (k : Nat) (A0 : Option Addr) (c0 : Nat),i = .int .i64 (k : Int) ∧ v = .slice A0 (urgL m c k).length c0 ∧ k ≤ m.ac.length ∧ Hid (Sep w.heap.size w [eInts (urgL m c k) (.slice A0 (urgL m c k).length c0),eBlk cb 91 (ckC c),eMc m q,eBlk sb 52 [.int .i64 c.1,.slice AT c.2.length cp],eBlk mb 37 [.slice p.A1 m.a.al.length p.c1,.int .i64 m.a.n,.slice p.A2 m.a.mr.length p.c2,.slice p.A3 m.a.ed.length p.c3,.slice B m.ac.length d,.int .i64 m.tk]] wr)) (fun _ i _ => m.ac.length - (intOf i).toNat)
   case atStart => exact ⟨0,none,0,rfl,rfl,Nat.zero_le _,S3.out⟩
   case round =>
    clear S3
    obtain ⟨k,A0,c0,rfl,rfl,hk,S⟩ := hrel
    by_cases hlt : k < m.ac.length
    · obtain ⟨gb,ob2,x,hB,hgb,hx,x0,x1,x2⟩ := AcsAt.at (HA.out.ac.below AcE.stays S.out.below) hlt
      dsimp only at hB
      subst hB
      have hev : m.ev k = x.ev := Md.ev_get hx
      have HEV := Lib.hid hev
      have hwr : IntKind.i64.wrap ((k : Int) + 1) = (k : Int) + 1 := IntWalk.i64_in _ (by omega)
      have HLN := Lib.hid (urgL_len (m := m) (c := c) (k := k))
      obtain ⟨xb,hxb⟩ : ∃ g,g = wr.heap.size := ⟨_,rfl⟩
      clear hx hgb hev
      go_upto_region 8 with fail
      rw [← hxb]
      refine wp_world (fun V => Hid (Sep w.heap.size w [eBlk xb 44 [.int .i64 x.ev,.int .i64 x.lo,.int .i64 x.up],eInts (urgL m c k) (.slice A0 (urgL m c k).length c0),eBlk cb 91 (ckC c),eMc m q,eBlk sb 52 [.int .i64 c.1,.slice AT c.2.length cp],eBlk mb 37 [.slice p.A1 m.a.al.length p.c1,.int .i64 m.a.n,.slice p.A2 m.a.mr.length p.c2,.slice p.A3 m.a.ed.length p.c3,.slice (some ⟨gb,ob2,none⟩) m.ac.length d,.int .i64 m.tk]] V)) (S.out.alloc' 44 [.int .i64 x.ev,.int .i64 x.lo,.int .i64 x.up] rfl hxb) fun W4 S' => ?_
      have S4 := Lib.hid S'.out
      clear S' S x0 x1 x2 hxb
      obtain ⟨u,hu⟩ : ∃ u,u = m.urg c k := ⟨_,rfl⟩
      have UC := Lib.hid (urgent_c m q c k W4 HM.out (HQ.out W4 S4.out.below (S4.out.get 3 rfl)) HC.out hlt)
      rw [← hu] at UC
      have HUU := Lib.hid hu
      clear hu
      go_wp2_with (refine wpList_ckLoad c cb (S4.out.get 2 rfl) hc32 rfl _ rfl rfl ?_)
      refine UC.out.mono ?_
      rintro e w5 ⟨rfl,hb⟩
      have S5 := Lib.hid (S4.out.next hb)
      clear hb S4 UC
      cases u
      · have E : Hid (urgL m c (k + 1) = urgL m c k) := urgL_no HUU.out.symm
        go_wp2_with fail
        go_roundw
        case rel => exact ⟨k + 1,A0,c0,by go_num,by rw [E.out],by omega,by have h := S5.out.drop1; rw [← E.out] at h; exact h⟩
        case measure => simp [intOf]; omega
      · have E : Hid (urgL m c (k + 1) = urgL m c k ++ [x.ev]) := by rw [Hid,urgL_yes HUU.out.symm,HEV.out]
        have hln : (urgL m c k).length ≤ 32 := by have := HLN.out; omega
        have x0 := BlkAt.cell (S5.out.get 0 rfl) 0; have x1 := BlkAt.cell (S5.out.get 0 rfl) 1; have x2 := BlkAt.cell (S5.out.get 0 rfl) 2; simp only [List.getElem?_cons_succ,List.getElem?_cons_zero] at x0 x1 x2
        go_wp2_with (at_builtin; refine wpList_pushS rfl _ _ 31 rfl (S5.out.alloc 3 [.int .i64 x.ev]) 2 rfl Tryz.underlying31 _ 8 intInfo rfl (by decide) rfl x.ev _ rfl rfl (one_cell _ _ [_] _ rfl) (encI_one _) (by omega) (by decide) ?_)
        intro A' c' w6 S6 _
        have S7 : Hid (Sep w.heap.size w [eInts (urgL m c (k + 1)) (.slice A' ((urgL m c k).length + 1) c'),eBlk cb 91 (ckC c),eMc m q,eBlk sb 52 [.int .i64 c.1,.slice AT c.2.length cp],eBlk mb 37 [.slice p.A1 m.a.al.length p.c1,.int .i64 m.a.n,.slice p.A2 m.a.mr.length p.c2,.slice p.A3 m.a.ed.length p.c3,.slice (some ⟨gb,ob2,none⟩) m.ac.length d,.int .i64 m.tk]] w6) := by rw [E.out]; exact S6.drop1.drop1
        have HN : Hid ((urgL m c k).length + 1 = (urgL m c (k + 1)).length) := by rw [E.out,List.length_append]; rfl
        clear S6 S5 x0 x1 x2 hln
        go_wp2_with fail
        go_roundw
        case rel => exact ⟨k + 1,A',c',by go_num,by rw [HN.out],by omega,by have h := S7.out; rw [HN.out] at h; exact h⟩
        case measure => simp [intOf]; omega
    · obtain rfl : k = m.ac.length := by omega
      go_wp2_with fail
      go_ret2
      have e1 : urP m c = urgL m c m.ac.length := by unfold urP; rw [if_pos HST.out]
      rw [e1,HST.out]
      exact ⟨A0,c0,rfl,S.out.first⟩
end Go.Proofs.YtimdepdbcdbikaaGreat
