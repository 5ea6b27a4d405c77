/-
  timed.begin.
  Plain: what the spans of Duration say: with bounds of at most 4 they agree with the list of all states and numbers of ticks up to a limit.
  Plain: the law's list of all states and numbers of ticks.
  Words for the laws of layer 44: the made model as one thing; what its states are; lists of small numbers.
-/
import Derived.Test.YtimdepdbcdbikaaBas01
import Derived.Test.YtimdepdbcdbikaaBas20
import Derived.Test.YtimdepdbcdbikaaBas14
import Derived.BigQuiet
import Derived.Deep.MidRow
import Derived.Test.YtimdepdbcdbikaaBas17
import Derived.Test.YtimdepdbcdbikaaBas19
set_option linter.unusedSimpArgs false
set_option linter.unusedVariables false
namespace Go.Proofs.Ytimdepdbcdbikaa
open Go.RowKit
set_option maxRecDepth 100000
def stE1 (m : Md) (c : Ck) (i : Nat) : Int := if tmr c i < 0 ∨ (m.at i).df < tmr c i then 2 else if tmr c i ≠ (m.at i).df ∧ m.pr c.1 i = false then 6 else 0
def stEk (m : Md) (c : Ck) : Nat → Int
 | 0 => 0
 | k + 1 => if stEk m c k = 0 then stE1 m c k else stEk m c k
def stE (m : Md) (c : Ck) : Int := if c.1 < 0 ∨ m.a.n ≤ c.1 then 2 else if c.2.length ≠ m.ac.length then 4 else stEk m c m.ac.length
theorem stEk_first {m : Md} {c : Ck} {k : Nat} (h : stEk m c k = 0) (hk : stE1 m c k ≠ 0) : ∀ n,k < n → stEk m c n = stE1 m c k := by
 intro n hn
 induction n with
 | zero => omega
 | succ n ih =>
   by_cases e : n = k
   · subst e; show (if stEk m c n = 0 then _ else _) = _; rw [if_pos h]
   · have h2 := ih (by omega)
     show (if stEk m c n = 0 then _ else _) = _
     rw [if_neg (by rw [h2]; exact hk),h2]
theorem stE_is {m : Md} (hm : m.Ok) {c : Ck} (h : stE m c = 0) : m.Is c := by
 unfold stE at h
 by_cases h1 : c.1 < 0 ∨ m.a.n ≤ c.1
 · rw [if_pos h1] at h; cases h
 · rw [if_neg h1] at h
   by_cases h2 : c.2.length ≠ m.ac.length
   · rw [if_pos h2] at h; cases h
   · rw [if_neg h2] at h
     refine ⟨by omega,by omega,fun i hi => ?_⟩
     have key : ∀ n,stEk m c n = 0 → ∀ j,j < n → stE1 m c j = 0 := by
      intro n
      induction n with
      | zero => intro _ j hj; omega
      | succ n ih =>
        intro hn j hj
        have hn : (if stEk m c n = 0 then stE1 m c n else stEk m c n) = 0 := hn
        by_cases e : stEk m c n = 0
        · rw [if_pos e] at hn
          by_cases g : j = n
          · subst g; exact hn
          · exact ih e j (by omega)
        · rw [if_neg e] at hn; exact absurd hn e
     have := key _ h i hi
     unfold stE1 at this
     by_cases g : tmr c i < 0 ∨ (m.at i).df < tmr c i
     · rw [if_pos g] at this; cases this
     · omega
theorem stE_zero {m : Md} {c : Ck} (hc : m.Is c) (h : ∀ i,i < m.ac.length → m.pr c.1 i = false → tmr c i = (m.at i).df) : stE m c = 0 := by
 unfold stE
 rw [if_neg (by have := hc.s; omega),if_neg (by have := hc.len; omega)]
 have : ∀ k,k ≤ m.ac.length → stEk m c k = 0 := by
  intro k
  induction k with
  | zero => intro _; rfl
  | succ k ih =>
    intro hk
    show (if stEk m c k = 0 then _ else _) = _
    rw [if_pos (ih (by omega))]
    have := hc.t k (by omega)
    unfold stE1
    rw [if_neg (by omega),if_neg]
    rintro ⟨g1,g2⟩
    exact g1 (h k (by omega) g2)
 exact this _ (Nat.le_refl _)
def GivesBg (m : Md) (P : MdP) (c : Ck) (w : World) (e : Ending) (w' : World) : Prop :=
 (∃ r : Int,e = .returned (.tuple #[.pointer none,.agg (ckC (0,[])).toArray,.int .i64 r]) ∧ r = stE m c ∧ r ≠ 0 ∧ Below w.heap.size w w') ∨
 (∃ q : McP,e = .returned (.tuple #[.pointer (some ⟨q.g,0,none⟩),.agg (ckC c).toArray,.int .i64 0]) ∧ stE m c = 0 ∧ q.P = P ∧ q.bs.length = m.a.n.toNat ∧ Hid (Sep w.heap.size w [eMc m q] w'))
theorem GivesBg.bad {m : Md} {P : MdP} {c : Ck} {w w' : World} {r : Int} (h : stE m c = r) (h0 : r ≠ 0) (hb : Below w.heap.size w w') : GivesBg m P c w (.returned (.tuple #[.pointer none,.agg (ckC (0,[])).toArray,.int .i64 r])) w' := .inl ⟨r,rfl,h.symm,h0,hb⟩
theorem GivesBg.good {m : Md} {P : MdP} {c : Ck} {w w' : World} {q : McP} (h : stE m c = 0) (hp : q.P = P) (hq : q.bs.length = m.a.n.toNat) (S : Sep w.heap.size w [eMc m q] w') : GivesBg m P c w (.returned (.tuple #[.pointer (some ⟨q.g,0,none⟩),.agg (ckC c).toArray,.int .i64 0])) w' := .inr ⟨q,rfl,h,hp,hq,S⟩
theorem res_bg {fn : Func} {t p u : Tmp} (h : fn.results = #[.tmp t,.cell p 109,.tmp u]) {tmps : Array Value} {w : World} {g : Nat} {c : Ck} {v x : Value} (ht : tmps.getD t undef = v) (hp : tmps.getD p undef = .pointer (some ⟨g,0,none⟩)) (hu : tmps.getD u undef = x) (hb : BlkAt w g 109 (ckC c)) (hc : c.2.length ≤ 32) :
 (results fn tmps).run Try.prog w = .ok (.tuple #[v,.agg (ckC c).toArray,x]) w := by
 simp only [Array.getD_eq_getD_getElem?] at ht hp hu
 simp [results,h,ht,hp,hu,asAddr,run_ckVar hb hc,Result.andThen]
theorem ck_push {s : Int} {l : List Int} {k : Nat} {t : Int} (hk : k < 32) (h : l[k]? = some t) : (ckC (s,l.take k)).set (1 + k) (.int .i8 t) = ckC (s,l.take (k + 1)) := by
 have hlt := (List.getElem?_eq_some_iff.1 h).1
 have hl : (l.take k).length = k := by rw [List.length_take]; omega
 have e : (pad32 (l.take k)).set k t = pad32 (l.take (k + 1)) := by
  unfold pad32
  rw [take_snoc h,List.length_append,List.length_singleton,hl,List.set_append_right _ _ (by omega),hl,Nat.sub_self]
  obtain ⟨r,hr⟩ : ∃ r,32 - k = r + 1 := ⟨31 - k,by omega⟩
  rw [hr,List.replicate_succ,List.set_cons_zero,show 32 - (k + 1) = r by omega,List.append_assoc]
  rfl
 unfold ckC ckT
 dsimp only
 rw [Nat.add_comm,List.set_cons_succ,← e,List.map_set]
set_option maxHeartbeats 8000000 in
theorem begin_c (m : Md) (P : MdP) (c : Ck) (AT : Option Addr) (cp : Nat) (w : World) (hm : m.Ok) (hA : Md.At w m P) (hT : IntsAt w AT c.2) :
 Calls Try.prog 54 #[.agg (m.cells P).toArray,.agg #[.int .i64 c.1,.slice AT c.2.length cp]] w (GivesBg m P c w) := by
 have h32 := hm.len32
 have HM := Lib.hid hm
 have HA := Lib.hid hA
 have HT := Lib.hid hT
 obtain ⟨p,B,d⟩ := P
 clear hm hA hT
 go_enter Try.func54,Try.ntmps54
 obtain ⟨mb,hmb⟩ : ∃ g,g = w.heap.size := ⟨_,rfl⟩
 obtain ⟨sb,hsb⟩ : ∃ g,g = w.heap.size + 1 := ⟨_,rfl⟩
 obtain ⟨rb,hrb⟩ : ∃ g,g = w.heap.size + 1 + 1 := ⟨_,rfl⟩
 go_upto_region 1 with fail
 rw [← hrb,← hsb,← hmb]
 refine wp_world (fun W => Sep w.heap.size w [eBlk rb 109 (ckC (0,[])),eBlk sb 63 [.int .i64 c.1,.slice AT c.2.length cp],eBlk mb 37 [.slice p.A1 m.a.al.length p.c1,.int .i64 m.a.n,.slice p.A2 m.a.mr.length p.c2,.slice p.A3 m.a.ed.length p.c3,.slice B m.ac.length d,.int .i64 m.tk]] W) ((((Sep.here w).alloc' _ [_,_,_,_,_,_] rfl hmb).alloc' _ [_,_] rfl (by rw [hsb]; simp)).alloc' _ (ckC (0,[])) rfl (by rw [hrb]; simp)) fun W S => ?_
 have S0 := Lib.hid S
 clear S hmb hsb hrb
 have PC := check44_c m ⟨p,B,d⟩ W HM.out (HA.out.below S0.out.below)
 dsimp only [Md.cells] at PC
 have PC2 := Lib.hid PC
 have b0 := BlkAt.cell (S0.out.get 2 rfl) 0; have b1 := BlkAt.cell (S0.out.get 2 rfl) 1; have b2 := BlkAt.cell (S0.out.get 2 rfl) 2; have b3 := BlkAt.cell (S0.out.get 2 rfl) 3; have b4 := BlkAt.cell (S0.out.get 2 rfl) 4; have b5 := BlkAt.cell (S0.out.get 2 rfl) 5; simp only [List.getElem?_cons_succ,List.getElem?_cons_zero] at b0 b1 b2 b3 b4 b5
 clear PC
 go_wp2_with fail
 refine PC2.out.mono ?_
 rintro e1 w1 ⟨rfl,hb⟩
 have S1 := Lib.hid (S0.out.next hb)
 clear PC2 hb S0 b0 b1 b2 b3 b4 b5
 have b0 := BlkAt.cell (S1.out.get 2 rfl) 0; have b1 := BlkAt.cell (S1.out.get 2 rfl) 1; have b2 := BlkAt.cell (S1.out.get 2 rfl) 2; have b3 := BlkAt.cell (S1.out.get 2 rfl) 3; have b4 := BlkAt.cell (S1.out.get 2 rfl) 4; have b5 := BlkAt.cell (S1.out.get 2 rfl) 5; simp only [List.getElem?_cons_succ,List.getElem?_cons_zero] at b0 b1 b2 b3 b4 b5
 have s0 := BlkAt.cell (S1.out.get 1 rfl) 0; have s1 := BlkAt.cell (S1.out.get 1 rfl) 1; simp only [List.getElem?_cons_succ,List.getElem?_cons_zero] at s0 s1
 by_cases h1 : c.1 < 0
 · have hd1 : decide (c.1 < 0) = true := decide_eq_true h1
   have EB : Hid (stE m c = 2) := by rw [Hid]; unfold stE; rw [if_pos (.inl h1)]
   clear h1
   go_upto_region 5 with fail
   clear b0 b1 b2 b3 b4 b5 s0 s1
   have hbd : ∀ V,(Instr.build 109 #[]).run Try.prog V = .ok (.agg (ckC (0,[])).toArray) V := fun V => run_build V _ _ _ built_ckz
   go_wp2_with (refine wpList_ckAt (0,[]) (by simp) rfl _ _ rfl S1.out 0 rb (0,[]) (by simp) rfl rfl rfl ?_)
   intro w9 S9'
   have S9 := Lib.hid S9'
   clear S9' S1
   go_wp2_with fail
   refine bodyPost_ret (v := .tuple #[.pointer none,.agg (ckC (0,[])).toArray,.int .i64 2]) (res_bg Try.results54 rfl rfl rfl (S9.out.get 0 rfl) (by simp)) rfl ?_
   exact GivesBg.bad EB.out (by decide) S9.out.below
 · have hd1 : decide (c.1 < 0) = false := decide_eq_false h1
   by_cases h2 : m.a.n ≤ c.1
   · have hd2 : decide (m.a.n ≤ c.1) = true := decide_eq_true h2
     have EB : Hid (stE m c = 2) := by rw [Hid]; unfold stE; rw [if_pos (.inr h2)]
     clear h1 h2
     go_upto_region 5 with fail
     clear b0 b1 b2 b3 b4 b5 s0 s1
     have hbd : ∀ V,(Instr.build 109 #[]).run Try.prog V = .ok (.agg (ckC (0,[])).toArray) V := fun V => run_build V _ _ _ built_ckz
     go_wp2_with (refine wpList_ckAt (0,[]) (by simp) rfl _ _ rfl S1.out 0 rb (0,[]) (by simp) rfl rfl rfl ?_)
     intro w9 S9'
     have S9 := Lib.hid S9'
     clear S9' S1
     go_wp2_with fail
     refine bodyPost_ret (v := .tuple #[.pointer none,.agg (ckC (0,[])).toArray,.int .i64 2]) (res_bg Try.results54 rfl rfl rfl (S9.out.get 0 rfl) (by simp)) rfl ?_
     exact GivesBg.bad EB.out (by decide) S9.out.below
   · have hd2 : decide (m.a.n ≤ c.1) = false := decide_eq_false h2
     by_cases h3 : c.2.length = m.ac.length
     · have EK : Hid (stE m c = stEk m c m.ac.length) := by rw [Hid]; unfold stE; rw [if_neg (by omega),if_neg (by omega)]
       have HLL := Lib.hid h3
       have HL32 : Hid (c.2.length ≤ 32) := by rw [Hid]; omega
       have NC := newMachine_c m ⟨p,B,d⟩
       dsimp only [Md.cells] at NC
       have NC2 := Lib.hid NC
       obtain ⟨s,hs⟩ := Int.eq_ofNat_of_zero_le (a := c.1) (by omega)
       have hsN : s < m.a.n.toNat := by omega
       have HS := Lib.hid hs
       rw [h3]
       rw [h3] at s1
       clear NC h1 h2 h3 hs
       go_wp2_with fail
       refine (NC2.out _ HM.out (HA.out.below S1.out.below)).mono ?_
       rintro e2 w2 ⟨q,rfl,hqP,hqB,T⟩
       have S2 := Lib.hid (S1.out.news T.out)
       have HQP := Lib.hid hqP
       have HQB := Lib.hid hqB
       have HQ : Hid (∀ V,Below w.heap.size w V → (eMc m q).ok V → Mch V m q) := fun V hb he => Mch.of he (by rw [HQP.out]; exact HA.out.below hb) HQB.out
       clear NC2 T S1 hqP hqB b0 b1 b2 b3 b4 b5 s0 s1 hd1 hd2
       have s0 := BlkAt.cell (S2.out.get 2 rfl) 0
       simp only [List.append_eq,List.nil_append,List.cons_append,List.getElem?_cons_succ,List.getElem?_cons_zero] at s0 S2
       rw [HLL.out] at S2
       obtain ⟨cb,hcb⟩ : ∃ g,g = w2.heap.size := ⟨_,rfl⟩
       go_upto_region 10 with (first | refine wpList_buildTo rfl 109 _ rfl (some 42) rfl (ckC (c.1,[])).toArray (Eq.trans (congrArg _ (by kernel_rfl)) (built_ck0 c.1)) ?_ | refine wpList_ckNew (c.1,[]) (by simp) rfl _ _ rfl _ rfl rfl (by kernel_rfl) ?_)
       rw [← hcb]
       refine wp_world (fun V => Hid (Sep w.heap.size w [eBlk cb 109 (ckC (c.1,c.2.take 0)),eMc m q,eBlk rb 109 (ckC (0,[])),eBlk sb 63 [.int .i64 c.1,.slice AT m.ac.length cp],eBlk mb 37 [.slice p.A1 m.a.al.length p.c1,.int .i64 m.a.n,.slice p.A2 m.a.mr.length p.c2,.slice p.A3 m.a.ed.length p.c3,.slice B m.ac.length d,.int .i64 m.tk]] V)) (S2.out.alloc' _ (ckC (c.1,[])) rfl hcb) fun W3 S => ?_
       have S3 := Lib.hid S.out
       clear S S2 hcb s0
       have s0 := BlkAt.cell (S3.out.get 3 rfl) 0; have s1 := BlkAt.cell (S3.out.get 3 rfl) 1; simp only [List.getElem?_cons_succ,List.getElem?_cons_zero] at s0 s1
       go_wp2_with fail
       clear s0 s1
       go_loopw [46] (fun i wr => ∃ k : Nat,i = .int .i64 (k : Int) ∧ k ≤ m.ac.length ∧ Hid (stEk m c k = 0) ∧ Hid (Sep w.heap.size w [eBlk cb 109 (ckC (c.1,c.2.take k)),eMc m q,eBlk rb 109 (ckC (0,[])),eBlk sb 63 [.int .i64 c.1,.slice AT m.ac.length cp],eBlk mb 37 [.slice p.A1 m.a.al.length p.c1,.int .i64 m.a.n,.slice p.A2 m.a.mr.length p.c2,.slice p.A3 m.a.ed.length p.c3,.slice B m.ac.length d,.int .i64 m.tk]] wr)) (fun i _ => m.ac.length - (intOf i).toNat)
       case atStart => exact ⟨0,rfl,Nat.zero_le _,rfl,S3.out⟩
       case round =>
        clear S3
        obtain ⟨k,rfl,hk,HE,S⟩ := hrel
        by_cases hlt : k < m.ac.length
        · obtain ⟨gt,ot,y,hTT,hgt,hy,y0⟩ := IntsAt.at (HT.out.below IntE.stays S.out.below) (k := k) (by rw [HLL.out]; exact hlt)
          have HTM : Hid (tmr c k = y) := by
           have h1 := tmr_get (c := c) (i := k) (by rw [HLL.out]; exact hlt)
           rw [hy] at h1
           exact (Option.some.inj h1).symm
          subst hTT
          have HQ1 := Lib.hid (HQ.out wr S.out.below (S.out.get 1 rfl))
          have hdfr := HM.out.df hlt
          obtain ⟨f,hf⟩ : ∃ f,f = (m.at k).df := ⟨_,rfl⟩
          have kd : wr.cell? ⟨q.g,6 + k,none⟩ = some (.int .i8 f) := by
           have h := HQ1.out.dfRange h32 k (.int .i8 f) (by rw [ckT_get (by simp [Md.dfs]; exact hlt),hf,← Md.dfs_at hlt 0]; rfl)
           exact h
          rw [← hf] at hdfr
          have HY := Lib.hid hy
          have hwf : IntKind.i64.wrap f = f := IntWalk.i64_in _ (by omega)
          have hwk : IntKind.i64.wrap ((k : Int) + 1) = (k : Int) + 1 := IntWalk.i64_in _ (by omega)
          have hi3 : (k : Int) < 32 := by omega
          have E1 : Hid (stE1 m c k = if y < 0 ∨ f < y then 2 else if y ≠ f ∧ m.pr c.1 k = false then 6 else 0) := by rw [Hid]; unfold stE1; rw [HTM.out,hf]
          have EF : Hid (stE1 m c k ≠ 0 → stE m c = stE1 m c k) := fun h => by rw [EK.out]; exact stEk_first HE.out h _ hlt
          clear hy hf hgt
          by_cases hy0 : y < 0
          · have hd : decide (y < 0) = true := decide_eq_true hy0
            have e1 : stE1 m c k = 2 := by rw [E1.out,if_pos (.inl hy0)]
            have EB : Hid (stE m c = 2) := by rw [Hid,EF.out (by rw [e1]; decide),e1]
            have S4 := Lib.hid (S.out.pick [2] (by decide))
            clear S e1 hy0
            go_upto_region 14 with fail
            clear y0 kd
            have hbd : ∀ V,(Instr.build 109 #[]).run Try.prog V = .ok (.agg (ckC (0,[])).toArray) V := fun V => run_build V _ _ _ built_ckz
            go_wp2_with (refine wpList_ckAt (0,[]) (by simp) rfl _ _ rfl S4.out 0 rb (0,[]) (by simp) rfl rfl rfl ?_)
            intro w9 S9'
            have S9 := Lib.hid S9'
            clear S9' S4
            go_wp2_with fail
            refine bodyPost_ret (v := .tuple #[.pointer none,.agg (ckC (0,[])).toArray,.int .i64 2]) (res_bg Try.results54 rfl rfl rfl (S9.out.get 0 rfl) (by simp)) rfl ?_
            exact GivesBg.bad EB.out (by decide) S9.out.below
          · have hd : decide (y < 0) = false := decide_eq_false hy0
            by_cases hyf : f < y
            · have hd2 : decide (f < y) = true := decide_eq_true hyf
              have e1 : stE1 m c k = 2 := by rw [E1.out,if_pos (.inr hyf)]
              have EB : Hid (stE m c = 2) := by rw [Hid,EF.out (by rw [e1]; decide),e1]
              have S4 := Lib.hid (S.out.pick [2] (by decide))
              clear S e1 hy0 hyf
              go_upto_region 14 with fail
              clear y0 kd
              have hbd : ∀ V,(Instr.build 109 #[]).run Try.prog V = .ok (.agg (ckC (0,[])).toArray) V := fun V => run_build V _ _ _ built_ckz
              go_wp2_with (refine wpList_ckAt (0,[]) (by simp) rfl _ _ rfl S4.out 0 rb (0,[]) (by simp) rfl rfl rfl ?_)
              intro w9 S9'
              have S9 := Lib.hid S9'
              clear S9' S4
              go_wp2_with fail
              refine bodyPost_ret (v := .tuple #[.pointer none,.agg (ckC (0,[])).toArray,.int .i64 2]) (res_bg Try.results54 rfl rfl rfl (S9.out.get 0 rfl) (by simp)) rfl ?_
              exact GivesBg.bad EB.out (by decide) S9.out.below
            · have hd2 : decide (f < y) = false := decide_eq_false hyf
              have hw8 : IntKind.i8.wrap y = y := IntWalk.i8_in _ (by omega)
              obtain ⟨bt,ot2,b,hA2⟩ := HQ1.out.atS h32 hsN
              have HPR : Hid (m.pr c.1 k = decide (0 ≤ m.nx s k)) := by rw [Hid]; unfold Md.pr; rw [HS.out]
              have k1 := hA2.to_
              have k2 := hA2.row
              have k3 := hA2.nx k hlt
              have k4 := hA2.lt
              have ks : wr.cell? ⟨sb,0,none⟩ = some (.int .i64 (s : Int)) := by rw [← HS.out]; exact BlkAt.cell (S.out.get 3 rfl) 0
              obtain ⟨z,hz⟩ : ∃ z,z = m.nx s k := ⟨_,rfl⟩
              rw [← hz] at k3 HPR
              clear hA2 hz
              go_upto_region 15 with fail
              go_cut [87] (fun v wx => v = .bool ((y != f) && decide (z < 0)) ∧ Hid (Sep w.heap.size w [eBlk cb 109 (ckC (c.1,c.2.take k)),eMc m q,eBlk rb 109 (ckC (0,[])),eBlk sb 63 [.int .i64 c.1,.slice (some ⟨gt,ot,none⟩) m.ac.length cp],eBlk mb 37 [.slice p.A1 m.a.al.length p.c1,.int .i64 m.a.n,.slice p.A2 m.a.mr.length p.c2,.slice p.A3 m.a.ed.length p.c3,.slice B m.ac.length d,.int .i64 m.tk]] wx))
              case first =>
               by_cases hyq : y = f
               · have hne : (y != f) = false := by rw [hyq]; simp
                 clear hyq
                 go_quiet (fail)
                 go_wp2_with fail
                 go_meet
                 exact ⟨by rw [hne]; rfl,S.out.draws _⟩
               · have hne : (y != f) = true := by simpa using hyq
                 clear hyq
                 by_cases hz0 : z < 0
                 · have hdz : decide (z < 0) = true := decide_eq_true hz0
                   clear hz0
                   go_quiet (fail)
                   go_wp2_with fail
                   go_meet
                   exact ⟨by rw [hne,hdz]; rfl,S.out.draws _⟩
                 · have hdz : decide (z < 0) = false := decide_eq_false hz0
                   clear hz0
                   go_quiet (fail)
                   go_wp2_with fail
                   go_meet
                   exact ⟨by rw [hne,hdz]; rfl,S.out.draws _⟩
              case rest =>
               clear S HQ1 k1 k2 k3 k4 ks kd y0
               obtain ⟨rfl,S⟩ := hcut
               obtain ⟨v,hv⟩ : ∃ v,v = ((y != f) && decide (z < 0)) := ⟨_,rfl⟩
               rw [← hv]
               have HV := Lib.hid hv
               clear hv
               cases v
               · have e1 : stE1 m c k = 0 := by
                  rw [E1.out,if_neg (by omega),if_neg]
                  rintro ⟨g1,g2⟩
                  have h1 : (y != f) = true := by simpa using g1
                  have h2 : decide (z < 0) = true := by
                   rw [HPR.out] at g2
                   have := of_decide_eq_false g2
                   exact decide_eq_true (by omega)
                  have := HV.out
                  rw [h1,h2] at this; cases this
                 have HE2 : Hid (stEk m c (k + 1) = 0) := by show (if stEk m c k = 0 then _ else _) = _; rw [if_pos HE.out,e1]
                 have kc := BlkAt.cell (S.out.get 0 rfl) (1 + k)
                 have kf := BlkAt.free (S.out.get 0 rfl) (1 + k)
                 have hcl : (ckC (c.1,c.2.take k)).length = 33 := ckC_len (by rw [List.length_take]; omega)
                 obtain ⟨u0,hu0⟩ : ∃ u0,(ckC (c.1,c.2.take k))[1 + k]? = some u0 := ⟨_,List.getElem?_eq_getElem (by omega)⟩
                 rw [hu0] at kc
                 have S5 : Hid (Sep w.heap.size w [eBlk cb 109 (ckC (c.1,c.2.take (k + 1))),eMc m q,eBlk rb 109 (ckC (0,[])),eBlk sb 63 [.int .i64 c.1,.slice (some ⟨gt,ot,none⟩) m.ac.length cp],eBlk mb 37 [.slice p.A1 m.a.al.length p.c1,.int .i64 m.a.n,.slice p.A2 m.a.mr.length p.c2,.slice p.A3 m.a.ed.length p.c3,.slice B m.ac.length d,.int .i64 m.tk]] (wc.setCell ⟨cb,1 + k,none⟩ (.int .i8 y))) := by
                  have h := S.out.set 0 rfl (1 + k) (.int .i8 y)
                  rw [ck_push (by omega) HY.out] at h
                  exact h
                 clear S hcl hu0 e1
                 go_wp2_with fail
                 go_roundw
                 case rel => exact ⟨k + 1,by go_num,by omega,HE2.out,S5.out⟩
                 case measure => simp [intOf]; omega
               · have h1 : (y != f) = true ∧ decide (z < 0) = true := by
                  have := HV.out.symm
                  simpa using this
                 have e1 : stE1 m c k = 6 := by
                  rw [E1.out,if_neg (by omega),if_pos]
                  refine ⟨by simpa using h1.1,?_⟩
                  rw [HPR.out]
                  have := of_decide_eq_true h1.2
                  exact decide_eq_false (by omega)
                 have EB : Hid (stE m c = 6) := by rw [Hid,EF.out (by rw [e1]; decide),e1]
                 have S4 := Lib.hid (S.out.pick [2] (by decide))
                 clear S e1 h1
                 go_upto_region 16 with fail
                 have hbd : ∀ V,(Instr.build 109 #[]).run Try.prog V = .ok (.agg (ckC (0,[])).toArray) V := fun V => run_build V _ _ _ built_ckz
                 go_wp2_with (refine wpList_ckAt (0,[]) (by simp) rfl _ _ rfl S4.out 0 rb (0,[]) (by simp) rfl rfl rfl ?_)
                 intro w9 S9'
                 have S9 := Lib.hid S9'
                 clear S9' S4
                 go_wp2_with fail
                 refine bodyPost_ret (v := .tuple #[.pointer none,.agg (ckC (0,[])).toArray,.int .i64 6]) (res_bg Try.results54 rfl rfl rfl (S9.out.get 0 rfl) (by simp)) rfl ?_
                 exact GivesBg.bad EB.out (by decide) S9.out.below
        · obtain rfl : k = m.ac.length := by omega
          have ST0 : Hid (stE m c = 0) := by rw [Hid,EK.out,HE.out]
          have HTA : Hid (c.2.take m.ac.length = c.2) := by rw [Hid,← HLL.out,List.take_length]
          have S1 : Hid (Sep w.heap.size w [eBlk cb 109 (ckC c),eMc m q,eBlk rb 109 (ckC (0,[])),eBlk sb 63 [.int .i64 c.1,.slice AT m.ac.length cp],eBlk mb 37 [.slice p.A1 m.a.al.length p.c1,.int .i64 m.a.n,.slice p.A2 m.a.mr.length p.c2,.slice p.A3 m.a.ed.length p.c3,.slice B m.ac.length d,.int .i64 m.tk]] wr) := by
           have h := S.out
           rw [HTA.out] at h
           exact h
          clear S
          go_upto_region 19 with fail
          have S1 := Lib.hid S1.out.drew
          refine wp_region_held_drew (S := (fun V => Sep w.heap.size w [eBlk cb 109 (ckC c)] V)) (by kernel_rfl) ?_ (fun hHeld => ?_)
          · exact S1.out.pick [0] (by decide)
          generalize hwz : wr.drew = w1 at *
          clear hwz
          refine tkP 0 rfl hHeld ?_
          try simp only [sx]
          refine wpAnyH_take (i := 1) (v := _) rfl (by kernel_rfl) (by kernel_rfl) (by kernel_rfl) (fun _ _ _ h => h) (yieldsIf_load_mid (by kernel_rfl) 109 (.tmp 9) rfl cb 0 rfl (ckC c) _ (fun V hSw => range_of (Sep.get (show Sep w.heap.size w _ V from hSw) 0 rfl)) Try.underlying109 rfl (by rw [ck_info,ckC_len HL32.out])) hHeld ?_
          try simp only [sx]
          refine tkP 2 rfl hHeld ?_
          try simp only [sx]
          refine rdH 3 rfl fun K hK => ?_
          refine step_ckAt c HL32.out rfl (.tmp 5) (.tmp 96) rfl S1.out 2 rb (0,[]) (by simp) rfl rfl rfl ?_
          intro w2 S2'
          have S2 : Hid (Sep w.heap.size w [eBlk cb 109 (ckC c),eMc m q,eBlk rb 109 (ckC c),eBlk sb 63 [.int .i64 c.1,.slice AT m.ac.length cp],eBlk mb 37 [.slice p.A1 m.a.al.length p.c1,.int .i64 m.a.n,.slice p.A2 m.a.mr.length p.c2,.slice p.A3 m.a.ed.length p.c3,.slice B m.ac.length d,.int .i64 m.tk]] w2) := S2'
          clear S2'
          refine hK.out _ _ ?_ (fun hHeld => ?_)
          · exact S2.out.pick [0] (by decide)
          clear hK K
          try simp only [sx]
          refine tkP 4 rfl hHeld ?_
          try simp only [sx]
          refine wpAnyH_done (by kernel_rfl) ?_ _
          go_wp2_with fail
          refine bodyPost_ret (v := .tuple #[.pointer (some ⟨q.g,0,none⟩),.agg (ckC c).toArray,.int .i64 0]) (res_bg Try.results54 rfl rfl rfl (S2.out.get 2 rfl) HL32.out) rfl ?_
          exact GivesBg.good ST0.out HQP.out HQB.out (S2.out.pick [1] (by decide))
     · have EB : Hid (stE m c = 4) := by rw [Hid]; unfold stE; rw [if_neg (by omega),if_pos h3]
       have hn1 : ((c.2.length : Int) != (m.ac.length : Int)) = true := by simp; omega
       have hn2 : (c.2.length != m.ac.length) = true := by simpa using h3
       clear h1 h2
       go_upto_region 7 with fail
       clear b0 b1 b2 b3 b4 b5 s0 s1
       have hbd : ∀ V,(Instr.build 109 #[]).run Try.prog V = .ok (.agg (ckC (0,[])).toArray) V := fun V => run_build V _ _ _ built_ckz
       go_wp2_with (refine wpList_ckAt (0,[]) (by simp) rfl _ _ rfl S1.out 0 rb (0,[]) (by simp) rfl rfl rfl ?_)
       intro w9 S9'
       have S9 := Lib.hid S9'
       clear S9' S1
       go_wp2_with fail
       refine bodyPost_ret (v := .tuple #[.pointer none,.agg (ckC (0,[])).toArray,.int .i64 4]) (res_bg Try.results54 rfl rfl rfl (S9.out.get 0 rfl) (by simp)) rfl ?_
       exact GivesBg.bad EB.out (by decide) S9.out.below
section
def tkN (m : Md) : Nat → Ck → Option Ck
 | 0,c => some c
 | j + 1,c => (tkN m j c).bind m.tick
section
variable {m : Md}
theorem tkN_add (i j : Nat) (c : Ck) : tkN m (i + j) c = (tkN m i c).bind (tkN m j) := by
 induction j with
 | zero => cases h : tkN m i c <;> simp [tkN,h]
 | succ j ih =>
   rw [← Nat.add_assoc]
   show (tkN m (i + j) c).bind m.tick = _
   rw [ih]
   cases h : tkN m i c <;> simp [tkN]
theorem tkN_none {i j : Nat} {c : Ck} (h : tkN m i c = none) (hij : i ≤ j) : tkN m j c = none := by
 obtain ⟨d,rfl⟩ := Nat.exists_eq_add_of_le hij
 rw [tkN_add,h]; rfl
theorem tkN_some {i j : Nat} {c d : Ck} (h : tkN m j c = some d) (hij : i ≤ j) : ∃ e,tkN m i c = some e := by
 cases g : tkN m i c with
 | some e => exact ⟨e,rfl⟩
 | none => rw [tkN_none g hij] at h; cases h
structure Chn (m : Md) (c : Ck) (ls : List Ck) (o : Option Nat) : Prop where
 get : ∀ i,i < ls.length → tkN m i c = ls[i]?
 no : o = none → tkN m ls.length c = none
 lp : ∀ j,o = some j → j < ls.length ∧ tkN m ls.length c = ls[j]?
theorem tks_chn (c : Ck) : ∀ (k : Nat) (ls : List Ck) (x : Ck),(∀ i,i < ls.length → tkN m i c = ls[i]?) → tkN m ls.length c = some x → (tks m k ls x).1.length < ls.length + k → Chn m c (tks m k ls x).1 (tks m k ls x).2
 | 0,ls,x,h1,h2,h3 => by simp [tks] at h3
 | k + 1,ls,x,h1,h2,h3 => by
   unfold tks at h3 ⊢
   by_cases hin : x ∈ ls
   · rw [if_pos hin] at h3 ⊢
     have hi := idxK_lt hin
     refine ⟨h1,(fun h => by cases h),fun j h => ?_⟩
     simp only [Option.some.injEq] at h
     subst h
     exact ⟨hi,by rw [h2]; exact (idxK_get hin).symm⟩
   · rw [if_neg hin] at h3 ⊢
     have h4 : ∀ i,i < (ls ++ [x]).length → tkN m i c = (ls ++ [x])[i]? := fun i hi => by
      rw [List.length_append,List.length_singleton] at hi
      by_cases e : i < ls.length
      · rw [List.getElem?_append_left e]; exact h1 i e
      · obtain rfl : i = ls.length := by omega
        rw [h2]; simp
     have h5 : tkN m (ls ++ [x]).length c = m.tick x := by
      rw [List.length_append,List.length_singleton]
      show (tkN m ls.length c).bind m.tick = _
      rw [h2]; rfl
     cases ht : m.tick x with
     | none =>
       exact ⟨h4,(fun _ => by rw [h5]; exact ht),(fun j h => by cases h)⟩
     | some d =>
       rw [ht] at h3
       simp only at h3
       refine tks_chn c k (ls ++ [x]) d h4 (by rw [h5]; exact ht) ?_
       rw [List.length_append,List.length_singleton]
       omega
theorem tks_chn0 (hm : m.Ok) (hf : Few m) {c : Ck} (hc : m.Is c) : Chn m c (tks m fuelT [] c).1 (tks m fuelT [] c).2 := by
 obtain ⟨h1,h2⟩ := tks_ok hm fuelT [] c (by simp) (by simp) hc
 have hl := hf _ h1 h2
 refine tks_chn c fuelT [] c (fun i hi => by simp at hi) rfl ?_
 show _ < 0 + 4001
 omega
theorem Chn.per {c : Ck} {ls : List Ck} {j : Nat} (h : Chn m c ls (some j)) (k : Nat) (hk : j ≤ k) : tkN m (k + (ls.length - j)) c = tkN m k c := by
 obtain ⟨h1,h2⟩ := h.lp j rfl
 have h3 : tkN m ls.length c = tkN m j c := by rw [h2,h.get j h1]
 obtain ⟨d,rfl⟩ := Nat.exists_eq_add_of_le hk
 have e : j + d + (ls.length - j) = ls.length + d := by omega
 rw [e,tkN_add,h3,← tkN_add]
theorem Chn.pers {c : Ck} {ls : List Ck} {j : Nat} (h : Chn m c ls (some j)) (k : Nat) (hk : j ≤ k) : ∀ q : Nat,tkN m (k + q * (ls.length - j)) c = tkN m k c
 | 0 => by rw [Nat.zero_mul]; rfl
 | q + 1 => by
   rw [Nat.succ_mul,← Nat.add_assoc,h.per _ (by omega),h.pers k hk q]
theorem Chn.red {c : Ck} {ls : List Ck} {j : Nat} (h : Chn m c ls (some j)) : ∀ k : Nat,j ≤ k → ∃ r,j ≤ r ∧ r < ls.length ∧ r ≤ k ∧ tkN m r c = tkN m k c := by
 intro k
 induction k using Nat.strongRecOn with
 | _ k ih =>
   intro hk
   have h1 := (h.lp j rfl).1
   by_cases hl : k < ls.length
   · exact ⟨k,hk,hl,Nat.le_refl _,rfl⟩
   · obtain ⟨r,r1,r2,r3,r4⟩ := ih (k - (ls.length - j)) (by omega) (by omega)
     refine ⟨r,r1,r2,by omega,?_⟩
     rw [r4,← h.per (k - (ls.length - j)) (by omega)]
     congr 1
     omega
theorem mem_cnX {i : Nat} {s : Sp} {b : Bool} {ls : List Ck} {k : Nat} {x : Ck × Sp} : x ∈ cnX m i s b ls k ↔ ∃ d,ls[k]? = some d ∧ m.act d i = some x.1 ∧ x.2 = ⟨s.lo + k,s.hi + k,b⟩ := by
 unfold cnX
 cases h1 : ls[k]? with
 | none => simp
 | some d =>
   simp only [Option.some.injEq,exists_eq_left']
   cases h2 : m.act d i with
   | none => simp
   | some t =>
     simp only [List.mem_singleton,Option.some.injEq]
     constructor
     · rintro rfl; exact ⟨rfl,rfl⟩
     · rintro ⟨h,g⟩; exact Prod.ext h.symm g
theorem mem_cnR {i : Nat} {s : Sp} {b : Bool} {ls : List Ck} {j n : Nat} {x : Ck × Sp} : x ∈ cnR m i s b ls j n ↔ ∃ k d,j ≤ k ∧ k < j + n ∧ ls[k]? = some d ∧ m.act d i = some x.1 ∧ x.2 = ⟨s.lo + k,s.hi + k,b⟩ := by
 unfold cnR
 rw [List.mem_flatMap]
 constructor
 · rintro ⟨t,ht,hx⟩
   obtain ⟨d,h1,h2,h3⟩ := mem_cnX.1 hx
   have := List.mem_range.1 ht
   exact ⟨j + t,d,by omega,by omega,h1,h2,h3⟩
 · rintro ⟨k,d,h1,h2,h3,h4,h5⟩
   refine ⟨k - j,List.mem_range.2 (by omega),mem_cnX.2 ⟨d,?_,h4,?_⟩⟩
   · rw [show j + (k - j) = k by omega]; exact h3
   · rw [show j + (k - j) = k by omega]; exact h5
abbrev RelT := Ck → Int → Prop
structure Cov (E : List (Ck × Sp)) (R : RelT) : Prop where
 lo : ∀ x,x ∈ E → R x.1 x.2.lo
 hi : ∀ x,x ∈ E → x.2.en = false → R x.1 x.2.hi
 en : ∀ x,x ∈ E → x.2.en = true → ∀ N : Int,∃ n,N ≤ n ∧ R x.1 n
 all : ∀ u n,R u n → ∃ s,(u,s) ∈ E ∧ s.lo ≤ n ∧ (s.en = false → n ≤ s.hi)
structure Cvr (E L : List (Ck × Sp)) : Prop where
 nd : (E.map Prod.fst).Nodup
 lo : ∀ x,x ∈ E → ∃ y,y ∈ L ∧ y.1 = x.1 ∧ y.2.lo = x.2.lo
 hi : ∀ x,x ∈ E → ∃ y,y ∈ L ∧ y.1 = x.1 ∧ y.2.hi = x.2.hi
 en : ∀ x,x ∈ E → x.2.en = true → ∃ y,y ∈ L ∧ y.1 = x.1 ∧ y.2.en = true
 all : ∀ y,y ∈ L → ∃ s,(y.1,s) ∈ E ∧ s.lo ≤ y.2.lo ∧ y.2.hi ≤ s.hi ∧ (y.2.en = true → s.en = true)
theorem Cvr.ins {E L : List (Ck × Sp)} (h : Cvr E L) (x : Ck × Sp) : Cvr (insS E x) (L ++ [x]) := by
 have nd := insS_nd h.nd x
 unfold insS at nd ⊢
 by_cases hx : x.1 ∈ E.map Prod.fst
 · rw [if_pos hx] at nd ⊢
   refine ⟨nd,fun y hy => ?_,fun y hy => ?_,fun y hy he => ?_,fun y hy => ?_⟩
   · obtain ⟨e,hE,rfl⟩ := List.mem_map.1 hy
     obtain ⟨z,z1,z2,z3⟩ := h.lo e hE
     by_cases g : e.1 = x.1
     · rw [if_pos g]
       by_cases k : e.2.lo ≤ x.2.lo
       · exact ⟨z,List.mem_append_left _ z1,z2,by rw [z3]; show _ = min e.2.lo x.2.lo; omega⟩
       · exact ⟨x,by simp,g.symm,by show _ = min e.2.lo x.2.lo; omega⟩
     · rw [if_neg g]; exact ⟨z,List.mem_append_left _ z1,z2,z3⟩
   · obtain ⟨e,hE,rfl⟩ := List.mem_map.1 hy
     obtain ⟨z,z1,z2,z3⟩ := h.hi e hE
     by_cases g : e.1 = x.1
     · rw [if_pos g]
       by_cases k : x.2.hi ≤ e.2.hi
       · exact ⟨z,List.mem_append_left _ z1,z2,by rw [z3]; show _ = max e.2.hi x.2.hi; omega⟩
       · exact ⟨x,by simp,g.symm,by show _ = max e.2.hi x.2.hi; omega⟩
     · rw [if_neg g]; exact ⟨z,List.mem_append_left _ z1,z2,z3⟩
   · obtain ⟨e,hE,rfl⟩ := List.mem_map.1 hy
     by_cases g : e.1 = x.1
     · rw [if_pos g] at he ⊢
       have he : (e.2.en || x.2.en) = true := he
       by_cases k : e.2.en = true
       · obtain ⟨z,z1,z2,z3⟩ := h.en e hE k
         exact ⟨z,List.mem_append_left _ z1,z2,z3⟩
       · rw [Bool.or_eq_true] at he
         exact ⟨x,by simp,g.symm,he.resolve_left k⟩
     · rw [if_neg g] at he ⊢
       obtain ⟨z,z1,z2,z3⟩ := h.en e hE he
       exact ⟨z,List.mem_append_left _ z1,z2,z3⟩
   · have key : ∀ e : Ck × Sp,e ∈ E → e.1 = x.1 → (e.1,jn (some e.2) x.2) ∈ E.map fun e => if e.1 = x.1 then (e.1,jn (some e.2) x.2) else e := fun e hE g => List.mem_map.2 ⟨e,hE,by rw [if_pos g]⟩
     rcases List.mem_append.1 hy with g | g
     · obtain ⟨s,s1,s2,s3,s4⟩ := h.all y g
       by_cases k : y.1 = x.1
       · refine ⟨_,key (y.1,s) s1 k,?_,?_,fun q => ?_⟩
         · show min s.lo x.2.lo ≤ _; omega
         · show _ ≤ max s.hi x.2.hi; omega
         · show (s.en || x.2.en) = true; rw [s4 q]; rfl
       · exact ⟨s,List.mem_map.2 ⟨_,s1,by rw [if_neg k]⟩,s2,s3,s4⟩
     · simp only [List.mem_singleton] at g
       subst g
       obtain ⟨e,hE,g⟩ := List.mem_map.1 hx
       have := key e hE g
       rw [g] at this
       refine ⟨_,this,?_,?_,fun q => ?_⟩
       · show min e.2.lo y.2.lo ≤ _; omega
       · show _ ≤ max e.2.hi y.2.hi; omega
       · show (e.2.en || y.2.en) = true; rw [q,Bool.or_true]
 · rw [if_neg hx] at nd ⊢
   refine ⟨nd,fun y hy => ?_,fun y hy => ?_,fun y hy he => ?_,fun y hy => ?_⟩
   · rcases List.mem_append.1 hy with g | g
     · obtain ⟨z,z1,z2,z3⟩ := h.lo y g
       exact ⟨z,List.mem_append_left _ z1,z2,z3⟩
     · exact ⟨y,List.mem_append_right _ g,rfl,rfl⟩
   · rcases List.mem_append.1 hy with g | g
     · obtain ⟨z,z1,z2,z3⟩ := h.hi y g
       exact ⟨z,List.mem_append_left _ z1,z2,z3⟩
     · exact ⟨y,List.mem_append_right _ g,rfl,rfl⟩
   · rcases List.mem_append.1 hy with g | g
     · obtain ⟨z,z1,z2,z3⟩ := h.en y g he
       exact ⟨z,List.mem_append_left _ z1,z2,z3⟩
     · exact ⟨y,List.mem_append_right _ g,rfl,he⟩
   · rcases List.mem_append.1 hy with g | g
     · obtain ⟨s,s1,s2,s3,s4⟩ := h.all y g
       exact ⟨s,List.mem_append_left _ s1,s2,s3,s4⟩
     · exact ⟨y.2,List.mem_append_right _ g,Int.le_refl _,Int.le_refl _,id⟩
theorem Cvr.insL (L : List (Ck × Sp)) : Cvr (insL L) L := by
 have : ∀ (L E L0 : List (Ck × Sp)),Cvr E L0 → Cvr (L.foldl insS E) (L0 ++ L) := by
  intro L
  induction L with
  | nil => intro E L0 h; simpa using h
  | cons x L ih =>
    intro E L0 h
    have := ih _ _ (h.ins x)
    rw [List.append_assoc] at this
    exact this
 have h := this L [] [] ⟨by simp,by simp,by simp,by simp,by simp⟩
 exact h
theorem Cvr.uni {E L : List (Ck × Sp)} (h : Cvr E L) {u : Ck} {s t : Sp} (h1 : (u,s) ∈ E) (h2 : (u,t) ∈ E) : s = t := by
 have a := (lkS_mem h.nd).2 h1
 have b := (lkS_mem h.nd).2 h2
 rw [a] at b
 exact Option.some.inj b
theorem Cov.join {E L : List (Ck × Sp)} {R : RelT} (h : Cvr E L) (k : Cov L R) : Cov E R := by
 refine ⟨fun x hx => ?_,fun x hx he => ?_,fun x hx he => ?_,fun u n hr => ?_⟩
 · obtain ⟨y,y1,y2,y3⟩ := h.lo x hx
   rw [← y2,← y3]; exact k.lo y y1
 · obtain ⟨y,y1,y2,y3⟩ := h.hi x hx
   rw [← y2,← y3]
   refine k.hi y y1 ?_
   obtain ⟨s,s1,_,_,s4⟩ := h.all y y1
   rw [y2] at s1
   have := h.uni s1 hx
   subst this
   cases hb : y.2.en with
   | false => rfl
   | true => rw [s4 hb] at he; cases he
 · obtain ⟨y,y1,y2,y3⟩ := h.en x hx he
   rw [← y2]; exact k.en y y1 y3
 · obtain ⟨s,s1,s2,s3⟩ := k.all u n hr
   obtain ⟨t,t1,t2,t3,t4⟩ := h.all _ s1
   refine ⟨t,t1,Int.le_trans t2 s2,fun he => Int.le_trans (s3 ?_) t3⟩
   cases hb : s.en with
   | false => rfl
   | true => rw [t4 hb] at he; cases he
def nextR (m : Md) (i : Nat) (R : RelT) : RelT := fun u n => ∃ c n0 j d,R c n0 ∧ n = n0 + ((j : Nat) : Int) ∧ tkN m j c = some d ∧ m.act d i = some u
theorem Cov.step (hm : m.Ok) (hf : Few m) {E : List (Ck × Sp)} {R : RelT} (hE : ∀ x,x ∈ E → m.Is x.1) (k : Cov E R) (i : Nat) : Cov (nxtV m i E) (nextR m i R) := by
 refine Cov.join (Cvr.insL _) ⟨fun x hx => ?_,fun x hx he => ?_,fun x hx he => ?_,fun u n hr => ?_⟩
 all_goals try
  obtain ⟨y,hy,hx⟩ := List.mem_flatMap.1 hx
  have ch := tks_chn0 hm hf (hE y hy)
  unfold conV at hx
  rw [List.mem_append] at hx
 · rcases hx with g | g
   · obtain ⟨k2,d,h1,h2,h3,h4,h5⟩ := mem_cnR.1 g
     rw [h5]
     exact ⟨y.1,y.2.lo,k2,d,k.lo y hy,rfl,by rw [ch.get _ (by omega)]; exact h3,h4⟩
   · cases ho : (tks m fuelT [] y.1).2 with
     | none => rw [ho] at g; simp at g
     | some j =>
       rw [ho] at g
       obtain ⟨k2,d,h1,h2,h3,h4,h5⟩ := mem_cnR.1 g
       rw [h5]
       exact ⟨y.1,y.2.lo,k2,d,k.lo y hy,rfl,by rw [ch.get _ (List.getElem?_eq_some_iff.1 h3).1]; exact h3,h4⟩
 · rcases hx with g | g
   · obtain ⟨k2,d,h1,h2,h3,h4,h5⟩ := mem_cnR.1 g
     rw [h5] at he ⊢
     exact ⟨y.1,y.2.hi,k2,d,k.hi y hy he,rfl,by rw [ch.get _ (by omega)]; exact h3,h4⟩
   · cases ho : (tks m fuelT [] y.1).2 with
     | none => rw [ho] at g; simp at g
     | some j =>
       rw [ho] at g
       obtain ⟨k2,d,h1,h2,h3,h4,h5⟩ := mem_cnR.1 g
       rw [h5] at he; cases he
 · intro N
   rcases hx with g | g
   · obtain ⟨k2,d,h1,h2,h3,h4,h5⟩ := mem_cnR.1 g
     rw [h5] at he
     obtain ⟨n,hn,hr⟩ := k.en y hy he N
     exact ⟨n + (k2 : Nat),by omega,y.1,n,k2,d,hr,rfl,by rw [ch.get _ (by omega)]; exact h3,h4⟩
   · cases ho : (tks m fuelT [] y.1).2 with
     | none => rw [ho] at g; simp at g
     | some j =>
       rw [ho] at g ch
       obtain ⟨k2,d,h1,h2,h3,h4,h5⟩ := mem_cnR.1 g
       have hj := (ch.lp j rfl).1
       have hp := ch.pers k2 h1 (N - y.2.lo).toNat
       refine ⟨y.2.lo + ((k2 + (N - y.2.lo).toNat * ((tks m fuelT [] y.1).1.length - j) : Nat) : Int),?_,y.1,y.2.lo,_,d,k.lo y hy,rfl,by rw [hp,ch.get _ (List.getElem?_eq_some_iff.1 h3).1]; exact h3,h4⟩
       have : (N - y.2.lo).toNat * 1 ≤ (N - y.2.lo).toNat * ((tks m fuelT [] y.1).1.length - j) := Nat.mul_le_mul_left _ (by omega)
       omega
 · obtain ⟨c,n0,j,d,h1,rfl,h3,h4⟩ := hr
   obtain ⟨s,s1,s2,s3⟩ := k.all c n0 h1
   have ch := tks_chn0 hm hf (hE _ s1)
   dsimp only at ch
   by_cases hl : j < (tks m fuelT [] c).1.length
   · refine ⟨⟨s.lo + j,s.hi + j,s.en⟩,List.mem_flatMap.2 ⟨_,s1,?_⟩,by dsimp only; omega,fun he => by have := s3 he; dsimp only; omega⟩
     unfold conV
     rw [List.mem_append]
     exact .inl (mem_cnR.2 ⟨j,d,Nat.zero_le _,by show j < 0 + (tks m fuelT [] c).1.length; omega,by rw [← ch.get _ hl]; exact h3,h4,rfl⟩)
   · cases ho : (tks m fuelT [] c).2 with
     | none => rw [tkN_none (ch.no ho) (by omega)] at h3; cases h3
     | some j0 =>
       rw [ho] at ch
       have hj := (ch.lp j0 rfl).1
       obtain ⟨r,r1,r2,r3,r4⟩ := ch.red j (by omega)
       refine ⟨⟨s.lo + r,s.hi + r,true⟩,List.mem_flatMap.2 ⟨_,s1,?_⟩,by dsimp only; omega,fun he => by cases he⟩
       unfold conV
       rw [List.mem_append,ho]
       exact .inr (mem_cnR.2 ⟨r,d,r1,by show r < j0 + ((tks m fuelT [] c).1.length - j0); omega,by rw [← ch.get _ r2,r4]; exact h3,h4,rfl⟩)
def reT (m : Md) (w : List Int) : Nat → RelT
 | 0 => fun u n => u = m.start ∧ n = 0
 | k + 1 => nextR m (m.idx (w.getD k 0)) (reT m w k)
theorem nowV_cov (hm : m.Ok) (hf : Few m) (hn : 0 < m.a.n) (w : List Int) : ∀ k : Nat,k ≤ w.length → Cov (nowV m w k) (reT m w k)
 | 0,_ => by
   have e : nowV m w 0 = [(m.start,⟨0,0,false⟩)] := by simp [nowV]
   rw [e]
   refine ⟨fun x hx => ?_,fun x hx _ => ?_,fun x hx he => ?_,fun u n h => ?_⟩
   · simp at hx; subst hx; exact ⟨rfl,rfl⟩
   · simp at hx; subst hx; exact ⟨rfl,rfl⟩
   · simp at hx; subst hx; cases he
   · obtain ⟨rfl,rfl⟩ := h
     exact ⟨⟨0,0,false⟩,by simp,Int.le_refl _,fun _ => Int.le_refl _⟩
 | k + 1,hk => by
   have hw : w[k]? = some (w.getD k 0) := by rw [List.getD_eq_getElem?_getD,List.getElem?_eq_getElem (by omega)]; rfl
   rw [nowV_next hw]
   exact Cov.step hm hf (fun x hx => (nowV_ok hm hf hn w k (by omega) x hx).1) (nowV_cov hm hf hn w k (by omega)) _
def LowB (m : Md) : Prop := ∀ i : Nat,i < m.ac.length → (m.at i).df ≤ 4
theorem tkN_tmr {c : Ck} (h0 : ∀ i : Nat,i < m.ac.length → 0 ≤ tmr c i) : ∀ (j : Nat) (d : Ck),tkN m j c = some d → d.1 = c.1 ∧ ∀ i : Nat,i < m.ac.length → tmr d i = if m.pr c.1 i = true then max 0 (tmr c i - j) else tmr c i
 | 0,d,h => by
   cases h
   refine ⟨rfl,fun i hi => ?_⟩
   have := h0 i hi
   split <;> omega
 | j + 1,d,h => by
   cases g : tkN m j c with
   | none => simp [tkN,g] at h
   | some e =>
     have h : m.tick e = some d := by simpa [tkN,g] using h
     obtain ⟨h1,h2⟩ := tkN_tmr h0 j e g
     unfold Md.tick at h
     split at h
     · cases h
     · cases h
       refine ⟨h1,fun i hi => ?_⟩
       rw [Md.fall_at _ _ _ hi,h1,h2 i hi]
       have := h0 i hi
       by_cases hp : m.pr c.1 i = true
       · simp only [hp,if_true]
         by_cases g : 0 < max 0 (tmr c i - (j : Int))
         · rw [if_pos ⟨hi,trivial,g⟩]
           omega
         · rw [if_neg (fun q => g q.2.2)]
           omega
       · simp only [hp,if_false,false_and,and_false]
         simp
theorem tk_fix (hl : LowB m) {c d e : Ck} (hc : m.Is c) (h : tkN m 4 c = some d) (ht : m.tick d = some e) : e = d := by
 obtain ⟨h1,h2⟩ := tkN_tmr (fun i hi => (hc.t i hi).1) 4 d h
 have hlen : d.2.length = m.ac.length := by
  have h3 : ∃ x,tkN m 3 c = some x := tkN_some h (by omega)
  obtain ⟨x,hx⟩ := h3
  have h4 : m.tick x = some d := by
   have h5 : (tkN m 3 c).bind m.tick = some d := h
   rw [hx] at h5
   exact h5
  unfold Md.tick at h4
  split at h4
  · cases h4
  · cases h4; exact Md.fall_len _ _
 unfold Md.tick at ht
 split at ht
 · cases ht
 · cases ht
   refine Prod.ext rfl (list_eq_of (Md.fall_len _ _) hlen fun i hi => ?_)
   rw [Md.fall_get _ _ hi,tmr_get (by omega),if_neg]
   rintro ⟨_,g1,g2⟩
   have := h2 i hi
   rw [h1] at g1
   rw [if_pos g1] at this
   have := hl i hi
   have := hc.t i hi
   omega
theorem tkN_big (hl : LowB m) {c : Ck} (hc : m.Is c) : ∀ j : Nat,∀ d,tkN m (5 + j) c = some d → tkN m 4 c = some d ∧ m.tick d = some d
 | 0,d,h => by
   have h : (tkN m 4 c).bind m.tick = some d := h
   cases g : tkN m 4 c with
   | none => rw [g] at h; cases h
   | some e =>
     rw [g] at h
     have h : m.tick e = some d := h
     have := tk_fix hl hc g h
     subst this
     exact ⟨rfl,h⟩
 | j + 1,d,h => by
   have h : (tkN m (5 + j) c).bind m.tick = some d := h
   cases g : tkN m (5 + j) c with
   | none => rw [g] at h; cases h
   | some e =>
     rw [g] at h
     have h : m.tick e = some d := h
     obtain ⟨h1,h2⟩ := tkN_big hl hc j e g
     rw [h2] at h
     cases h
     exact ⟨h1,h2⟩
theorem tkN_fixd {d : Ck} (h : m.tick d = some d) : ∀ j : Nat,tkN m j d = some d
 | 0 => rfl
 | j + 1 => by show (tkN m j d).bind m.tick = _; rw [tkN_fixd h j]; exact h
theorem tkN_short (hl : LowB m) {c d : Ck} (hc : m.Is c) {j : Nat} (h : tkN m j c = some d) : ∃ i : Nat,i ≤ 4 ∧ i ≤ j ∧ tkN m i c = some d := by
 by_cases hj : j ≤ 4
 · exact ⟨j,hj,Nat.le_refl _,h⟩
 · obtain ⟨i,rfl⟩ : ∃ i,j = 5 + i := ⟨j - 5,by omega⟩
   exact ⟨4,Nat.le_refl _,by omega,(tkN_big hl hc i d h).1⟩
theorem tkN_long (hl : LowB m) {c d : Ck} (hc : m.Is c) {j : Nat} (hj : 4 < j) (h : tkN m j c = some d) (i : Nat) (hi : 4 ≤ i) : tkN m i c = some d := by
 obtain ⟨k,rfl⟩ : ∃ k,j = 5 + k := ⟨j - 5,by omega⟩
 obtain ⟨h1,h2⟩ := tkN_big hl hc k d h
 obtain ⟨q,rfl⟩ := Nat.exists_eq_add_of_le hi
 rw [tkN_add,h1]
 exact tkN_fixd h2 q
theorem tkN_is (hm : m.Ok) {c : Ck} (hc : m.Is c) : ∀ (j : Nat) (d : Ck),tkN m j c = some d → m.Is d
 | 0,d,h => by cases h; exact hc
 | j + 1,d,h => by
   have h : (tkN m j c).bind m.tick = some d := h
   cases g : tkN m j c with
   | none => rw [g] at h; cases h
   | some e =>
     rw [g] at h
     exact (tkN_is hm hc j e g).tick hm h
theorem reT_is (hm : m.Ok) (hn : 0 < m.a.n) (w : List Int) : ∀ (k : Nat) (u : Ck) (n : Int),reT m w k u n → m.Is u ∧ 0 ≤ n
 | 0,u,n,h => by obtain ⟨rfl,rfl⟩ := h; exact ⟨Md.Is.start hm hn,Int.le_refl _⟩
 | k + 1,u,n,h => by
   obtain ⟨c,n0,j,d,h1,rfl,h3,h4⟩ := h
   obtain ⟨g1,g2⟩ := reT_is hm hn w k c n0 h1
   exact ⟨(tkN_is hm g1 j d h3).act hm h4,by omega⟩
theorem reT_low (hm : m.Ok) (hn : 0 < m.a.n) (hl : LowB m) (w : List Int) : ∀ (k : Nat) (u : Ck) (n : Int),reT m w k u n → ∃ n',n' ≤ n ∧ n' ≤ 4 * k ∧ reT m w k u n'
 | 0,u,n,h => by obtain ⟨rfl,rfl⟩ := h; exact ⟨0,Int.le_refl _,by omega,rfl,rfl⟩
 | k + 1,u,n,h => by
   obtain ⟨c,n0,j,d,h1,rfl,h3,h4⟩ := h
   obtain ⟨g1,g2⟩ := reT_is hm hn w k c n0 h1
   obtain ⟨n',p1,p2,p3⟩ := reT_low hm hn hl w k c n0 h1
   obtain ⟨i,q1,q2,q3⟩ := tkN_short hl g1 h3
   exact ⟨n' + (i : Nat),by omega,by omega,c,n',i,d,p3,rfl,q3,h4⟩
theorem reT_high (hm : m.Ok) (hn : 0 < m.a.n) (hl : LowB m) (w : List Int) : ∀ (k : Nat) (u : Ck) (n : Int),reT m w k u n → 4 * (k : Int) < n → ∀ N : Int,4 * (k : Int) ≤ N → reT m w k u N
 | 0,u,n,h,hb => by obtain ⟨rfl,rfl⟩ := h; omega
 | k + 1,u,n,h,hb => by
   intro N hN
   obtain ⟨c,n0,j,d,h1,rfl,h3,h4⟩ := h
   obtain ⟨g1,g2⟩ := reT_is hm hn w k c n0 h1
   by_cases h0 : 4 * (k : Int) < n0
   · obtain ⟨i,q1,q2,q3⟩ := tkN_short hl g1 h3
     refine ⟨c,N - (i : Nat),i,d,reT_high hm hn hl w k c n0 h1 h0 _ (by omega),by omega,q3,h4⟩
   · refine ⟨c,n0,(N - n0).toNat,d,h1,by omega,tkN_long hl g1 (by omega) h3 _ (by omega),h4⟩
structure AllOf (s : Sp) (L : List (Ck × Sp)) : Prop where
 lo : ∃ x,x ∈ L ∧ x.2.lo = s.lo
 hi : ∃ x,x ∈ L ∧ x.2.hi = s.hi
 en : s.en = true → ∃ x,x ∈ L ∧ x.2.en = true
 all : ∀ x,x ∈ L → s.lo ≤ x.2.lo ∧ x.2.hi ≤ s.hi ∧ (x.2.en = true → s.en = true)
theorem AllOf.one (x : Ck × Sp) : AllOf x.2 [x] := ⟨⟨x,by simp,rfl⟩,⟨x,by simp,rfl⟩,fun h => ⟨x,by simp,h⟩,fun y hy => by simp at hy; subst hy; exact ⟨Int.le_refl _,Int.le_refl _,id⟩⟩
theorem AllOf.more {s : Sp} {L : List (Ck × Sp)} (h : AllOf s L) (x : Ck × Sp) : AllOf (jn (some s) x.2) (L ++ [x]) := by
 refine ⟨?_,?_,fun he => ?_,fun y hy => ?_⟩
 · obtain ⟨y,y1,y2⟩ := h.lo
   by_cases k : s.lo ≤ x.2.lo
   · exact ⟨y,List.mem_append_left _ y1,by rw [y2]; show _ = min s.lo x.2.lo; omega⟩
   · exact ⟨x,by simp,by show _ = min s.lo x.2.lo; omega⟩
 · obtain ⟨y,y1,y2⟩ := h.hi
   by_cases k : x.2.hi ≤ s.hi
   · exact ⟨y,List.mem_append_left _ y1,by rw [y2]; show _ = max s.hi x.2.hi; omega⟩
   · exact ⟨x,by simp,by show _ = max s.hi x.2.hi; omega⟩
 · have he : (s.en || x.2.en) = true := he
   by_cases k : s.en = true
   · obtain ⟨y,y1,y2⟩ := h.en k
     exact ⟨y,List.mem_append_left _ y1,y2⟩
   · rw [Bool.or_eq_true] at he
     exact ⟨x,by simp,he.resolve_left k⟩
 · show min s.lo x.2.lo ≤ _ ∧ _ ≤ max s.hi x.2.hi ∧ (_ → (s.en || x.2.en) = true)
   rcases List.mem_append.1 hy with g | g
   · obtain ⟨a,b,c⟩ := h.all y g
     exact ⟨by omega,by omega,fun q => by rw [c q]; rfl⟩
   · simp only [List.mem_singleton] at g
     subst g
     exact ⟨by omega,by omega,fun q => by rw [q,Bool.or_true]⟩
theorem allSp_of (L : List (Ck × Sp)) : (L = [] ∧ allSp L = none) ∨ ∃ s,allSp L = some s ∧ AllOf s L := by
 cases L with
 | nil => exact .inl ⟨rfl,rfl⟩
 | cons x L =>
   right
   have : ∀ (L L0 : List (Ck × Sp)) (s : Sp),AllOf s L0 → ∃ t,L.foldl (fun o x => some (jn o x.2)) (some s) = some t ∧ AllOf t (L0 ++ L) := by
    intro L
    induction L with
    | nil => intro L0 s h; exact ⟨s,rfl,by simpa using h⟩
    | cons y L ih =>
      intro L0 s h
      obtain ⟨t,t1,t2⟩ := ih _ _ (h.more y)
      rw [List.append_assoc] at t2
      exact ⟨t,t1,t2⟩
   obtain ⟨t,t1,t2⟩ := this L [x] x.2 (AllOf.one x)
   exact ⟨t,t1,t2⟩
def lgV (D : List (Ck × Int)) : Nat → Int × Int
 | 0 => (0,0)
 | k + 1 => (min (if k = 0 then (D.getD k ((0,[]),0)).2 else (lgV D k).1) (D.getD k ((0,[]),0)).2,max (lgV D k).2 (D.getD k ((0,[]),0)).2)
theorem lgV_ok (D : List (Ck × Int)) (h0 : ∀ x,x ∈ D → 0 ≤ x.2) : ∀ k : Nat,k ≤ D.length → 0 < k → ((∃ x,x ∈ D ∧ x.2 = (lgV D k).1) ∧ ∀ i,i < k → (lgV D k).1 ≤ (D.getD i ((0,[]),0)).2) ∧ (∃ x,x ∈ D ∧ x.2 = (lgV D k).2) ∧ ∀ i,i < k → (D.getD i ((0,[]),0)).2 ≤ (lgV D k).2
 | 0,_,h => absurd h (by omega)
 | k + 1,hk,_ => by
   have hm : D.getD k ((0,[]),0) ∈ D := by rw [List.getD_eq_getElem?_getD,List.getElem?_eq_getElem (by omega)]; exact List.getElem_mem _
   have hz := h0 _ hm
   by_cases e : k = 0
   · subst e
     simp only [lgV]
     refine ⟨⟨⟨_,hm,by simp⟩,fun i hi => ?_⟩,⟨_,hm,by omega⟩,fun i hi => ?_⟩
     · obtain rfl : i = 0 := by omega
       simp
     · obtain rfl : i = 0 := by omega
       omega
   · obtain ⟨⟨⟨x,x1,x2⟩,a2⟩,⟨y,y1,y2⟩,b2⟩ := lgV_ok D h0 k (by omega) (by omega)
     simp only [lgV,if_neg e]
     refine ⟨⟨?_,fun i hi => ?_⟩,?_,fun i hi => ?_⟩
     · by_cases g : (lgV D k).1 ≤ (D.getD k ((0,[]),0)).2
       · exact ⟨x,x1,by omega⟩
       · exact ⟨_,hm,by omega⟩
     · by_cases g : i = k
       · subst g; omega
       · have := a2 i (by omega); omega
     · by_cases g : (D.getD k ((0,[]),0)).2 ≤ (lgV D k).2
       · exact ⟨y,y1,by omega⟩
       · exact ⟨_,hm,by omega⟩
     · by_cases g : i = k
       · subst g; omega
       · have := b2 i (by omega); omega
def refDu (D : List (Ck × Int)) (most : Int) : Int × Int × Bool := ((lgV D D.length).1,if most ≤ (lgV D D.length).2 then -1 else (lgV D D.length).2,decide (0 < D.length))
theorem dur_eq (hm : m.Ok) (hf : Few m) (hn : 0 < m.a.n) (hl : LowB m) (w : List Int) (D : List (Ck × Int)) (hD : ∀ u n,(u,n) ∈ D ↔ reT m w w.length u n ∧ n ≤ 4 * (w.length : Int) + 12) : durV m w = refDu D (4 * (w.length : Int) + 12) := by
 have cov := nowV_cov hm hf hn w w.length (Nat.le_refl _)
 have h0 : ∀ x,x ∈ D → 0 ≤ x.2 := fun x hx => (reT_is hm hn w _ _ _ ((hD x.1 x.2).1 hx).1).2
 unfold durV refDu
 rcases allSp_of (nowV m w w.length) with ⟨h1,h2⟩ | ⟨s,h1,h2⟩
 · rw [h2]
   have : D = [] := by
    cases D with
    | nil => rfl
    | cons x D =>
      obtain ⟨s,s1,_⟩ := cov.all x.1 x.2 ((hD x.1 x.2).1 (by simp)).1
      rw [h1] at s1; cases s1
   subst this
   simp [lgV]
   omega
 · rw [h1]
   obtain ⟨x,x1,x2⟩ := h2.lo
   have r1 := cov.lo x x1
   obtain ⟨n',p1,p2,p3⟩ := reT_low hm hn hl w _ _ _ r1
   obtain ⟨t,t1,t2,_⟩ := cov.all _ _ p3
   have t3 := h2.all _ t1
   dsimp only at t3
   have hin : (x.1,x.2.lo) ∈ D := (hD _ _).2 ⟨r1,by omega⟩
   have hpos : 0 < D.length := List.length_pos_of_mem hin
   obtain ⟨⟨⟨y,y1,y2⟩,a2⟩,⟨z,z1,z2⟩,b2⟩ := lgV_ok D h0 D.length (Nat.le_refl _) hpos
   have at_ : ∀ v,v ∈ D → ∃ i,i < D.length ∧ D.getD i ((0,[]),0) = v := fun v hv => by
    obtain ⟨i,hi,rfl⟩ := List.mem_iff_getElem.1 hv
    exact ⟨i,hi,by rw [List.getD_eq_getElem?_getD,List.getElem?_eq_getElem hi]; rfl⟩
   have ge : ∀ v,v ∈ D → (lgV D D.length).1 ≤ v.2 ∧ v.2 ≤ (lgV D D.length).2 := fun v hv => by
    obtain ⟨i,hi,rfl⟩ := at_ v hv
    exact ⟨a2 i hi,b2 i hi⟩
   have all : ∀ v,v ∈ D → s.lo ≤ v.2 ∧ (s.en = false → v.2 ≤ s.hi) := fun v hv => by
    obtain ⟨t,t1,t2,t3⟩ := cov.all v.1 v.2 ((hD v.1 v.2).1 hv).1
    have t4 := h2.all _ t1
    dsimp only at t4
    refine ⟨by omega,fun he => ?_⟩
    have : t.en = false := by
     cases hb : t.en with
     | false => rfl
     | true => rw [t4.2.2 hb] at he; cases he
    have := t3 this
    omega
   have e1 : s.lo = (lgV D D.length).1 := by
    have g1 := (ge _ hin).1
    have g2 := (all y y1).1
    dsimp only at g1
    omega
   have e3 : decide (0 < D.length) = true := decide_eq_true hpos
   rw [e3]
   show (s.lo,(if s.en = true then (-1 : Int) else s.hi),true) = _
   cases hb : s.en with
   | false =>
     obtain ⟨v,v1,v2⟩ := h2.hi
     have hv : v.2.en = false := by
      cases hc : v.2.en with
      | false => rfl
      | true => rw [(h2.all v v1).2.2 hc] at hb; cases hb
     have r2 := cov.hi v v1 hv
     have hle : v.2.hi ≤ 4 * (w.length : Int) := by
      refine Int.not_lt.1 fun hgt => ?_
      have r3 := reT_high hm hn hl w _ _ _ r2 hgt (v.2.hi + 1) (by omega)
      obtain ⟨t,q1,q2,q3⟩ := cov.all _ _ r3
      have q4 := h2.all _ q1
      dsimp only at q4
      have : t.en = false := by
       cases hc : t.en with
       | false => rfl
       | true => rw [q4.2.2 hc] at hb; cases hb
      have := q3 this
      omega
     have hin2 : (v.1,v.2.hi) ∈ D := (hD _ _).2 ⟨r2,by omega⟩
     have g1 := (ge _ hin2).2
     have g2 := (all z z1).2 hb
     dsimp only at g1
     have e2 : s.hi = (lgV D D.length).2 := by omega
     rw [if_neg (show ¬ 4 * (w.length : Int) + 12 ≤ (lgV D D.length).2 by omega),e1,← e2]
     rfl
   | true =>
     obtain ⟨v,v1,v2⟩ := h2.en hb
     obtain ⟨n,n1,n2⟩ := cov.en v v1 v2 (4 * (w.length : Int) + 1)
     have r3 := reT_high hm hn hl w _ _ _ n2 (by omega) (4 * (w.length : Int) + 12) (by omega)
     have hin2 : (v.1,4 * (w.length : Int) + 12) ∈ D := (hD _ _).2 ⟨r3,Int.le_refl _⟩
     have g1 := (ge _ hin2).2
     dsimp only at g1
     rw [if_pos g1,e1]
     rfl
end
end
section
abbrev Rd := Ck × Int
def addD (l : List Rd) (x : Rd) : List Rd := if x ∈ l then l else l ++ [x]
theorem mem_addD {l : List Rd} {x y : Rd} : y ∈ addD l x ↔ y ∈ l ∨ y = x := by
 unfold addD
 split
 · rename_i h
   constructor
   · exact .inl
   · rintro (g | rfl)
     · exact g
     · exact h
 · rw [List.mem_append,List.mem_singleton]
theorem addD_len (l : List Rd) (x : Rd) : (addD l x).length ≤ l.length + 1 := by
 unfold addD; split <;> simp
def putD (m : Md) (e : Int) (s : Ck) (n : Int) (next : List Rd) : List Rd := match m.eff e s with
 | none => next
 | some t => addD next (t,n)
def waitD (m : Md) (e most : Int) : Nat → Ck → Int → List Rd → List Rd
 | 0,_,_,next => next
 | f + 1,s,n,next => if n ≤ most then (match m.tick s with
    | none => putD m e s n next
    | some s' => waitD m e most f s' (n + 1) (putD m e s n next)) else next
section
variable {m : Md}
theorem mem_putD {e : Int} {s : Ck} {n : Int} {next : List Rd} {y : Rd} : y ∈ putD m e s n next ↔ y ∈ next ∨ (m.eff e s = some y.1 ∧ y.2 = n) := by
 unfold putD
 cases h : m.eff e s with
 | none => simp
 | some t =>
   simp only [mem_addD,Option.some.injEq]
   constructor
   · rintro (g | rfl)
     · exact .inl g
     · exact .inr ⟨rfl,rfl⟩
   · rintro (g | ⟨g1,g2⟩)
     · exact .inl g
     · exact .inr (Prod.ext g1.symm g2)
theorem putD_len (e : Int) (s : Ck) (n : Int) (next : List Rd) : (putD m e s n next).length ≤ next.length + 1 := by
 unfold putD; split
 · omega
 · exact addD_len _ _
theorem waitD_len (e most : Int) : ∀ (f : Nat) (s : Ck) (n : Int) (next : List Rd),(waitD m e most f s n next).length ≤ next.length + f
 | 0,s,n,next => Nat.le_refl _
 | f + 1,s,n,next => by
   have h1 := putD_len (m := m) e s n next
   unfold waitD
   split
   · split
     · omega
     · have := waitD_len e most f ‹_› (n + 1) (putD m e s n next)
       omega
   · omega
theorem mem_waitD {e most : Int} : ∀ (f : Nat) (s : Ck) (n : Int) (next : List Rd) (y : Rd),y ∈ waitD m e most f s n next ↔ y ∈ next ∨ ∃ j : Nat,j < f ∧ y.2 = n + j ∧ y.2 ≤ most ∧ ∃ d,tkN m j s = some d ∧ m.eff e d = some y.1
 | 0,s,n,next,y => by simp [waitD]
 | f + 1,s,n,next,y => by
   have shift : ∀ (s' : Ck),m.tick s = some s' → ∀ j d,tkN m j s' = some d ↔ tkN m (j + 1) s = some d := fun s' h j d => by
    rw [Nat.add_comm,tkN_add]
    show _ ↔ ((tkN m 0 s).bind m.tick).bind (tkN m j) = some d
    simp [tkN,h]
   unfold waitD
   by_cases hn : n ≤ most
   · rw [if_pos hn]
     cases ht : m.tick s with
     | none =>
       simp only [mem_putD]
       constructor
       · rintro (g | ⟨g1,g2⟩)
         · exact .inl g
         · exact .inr ⟨0,by omega,by simpa using g2,by omega,s,rfl,g1⟩
       · rintro (g | ⟨j,j1,j2,j3,d,j4,j5⟩)
         · exact .inl g
         · cases j with
           | zero => cases j4; exact .inr ⟨j5,by simpa using j2⟩
           | succ j =>
             have : tkN m 1 s = none := by simp [tkN,ht]
             rw [tkN_none this (by omega)] at j4; cases j4
     | some s' =>
       simp only [mem_waitD f s' (n + 1),mem_putD]
       constructor
       · rintro ((g | ⟨g1,g2⟩) | ⟨j,j1,j2,j3,d,j4,j5⟩)
         · exact .inl g
         · exact .inr ⟨0,by omega,by simpa using g2,by omega,s,rfl,g1⟩
         · exact .inr ⟨j + 1,by omega,by omega,j3,d,(shift s' ht j d).1 j4,j5⟩
       · rintro (g | ⟨j,j1,j2,j3,d,j4,j5⟩)
         · exact .inl (.inl g)
         · cases j with
           | zero => cases j4; exact .inl (.inr ⟨j5,by simpa using j2⟩)
           | succ j => exact .inr ⟨j,by omega,by omega,j3,d,(shift s' ht j d).2 j4,j5⟩
   · rw [if_neg hn]
     constructor
     · exact .inl
     · rintro (g | ⟨j,j1,j2,j3,_⟩)
       · exact g
       · omega
def fuelD (most n : Int) : Nat := (most + 1 - n).toNat
def rowD (m : Md) (e most : Int) (L : List Rd) (j : Nat) : List Rd := (L.take j).foldl (fun nx x => waitD m e most (fuelD most x.2) x.1 x.2 nx) []
theorem rowD_next {e most : Int} {L : List Rd} {j : Nat} {x : Rd} (h : L[j]? = some x) : rowD m e most L (j + 1) = waitD m e most (fuelD most x.2) x.1 x.2 (rowD m e most L j) := by
 unfold rowD
 rw [List.take_add_one,h,Option.toList_some,List.foldl_append]; rfl
theorem mem_rowD {e most : Int} {L : List Rd} {y : Rd} : ∀ j : Nat,j ≤ L.length → (y ∈ rowD m e most L j ↔ ∃ i x,i < j ∧ L[i]? = some x ∧ ∃ k : Nat,y.2 = x.2 + k ∧ y.2 ≤ most ∧ ∃ d,tkN m k x.1 = some d ∧ m.eff e d = some y.1)
 | 0,_ => by simp [rowD]
 | j + 1,hj => by
   have hx : L[j]? = some L[j] := List.getElem?_eq_getElem (by omega)
   rw [rowD_next hx,mem_waitD,mem_rowD j (by omega)]
   constructor
   · rintro (⟨i,x,h1,h2,h3⟩ | ⟨k,k1,k2,k3,h⟩)
     · exact ⟨i,x,by omega,h2,h3⟩
     · exact ⟨j,_,by omega,hx,k,k2,k3,h⟩
   · rintro ⟨i,x,h1,h2,k,k2,k3,h⟩
     by_cases g : i = j
     · subst g
       rw [hx] at h2; cases h2
       refine .inr ⟨k,?_,k2,k3,h⟩
       unfold fuelD; omega
     · exact .inl ⟨i,x,by omega,h2,k,k2,k3,h⟩
def refL (m : Md) (most : Int) (w : List Int) : Nat → List Rd
 | 0 => [(m.start,0)]
 | k + 1 => rowD m (w.getD k 0) most (refL m most w k) (refL m most w k).length
theorem refL_mem (hm : m.Ok) (hn : 0 < m.a.n) {most : Int} (h0 : 0 ≤ most) {w : List Int} (hw : ∀ v,v ∈ w → v ∈ m.a.al) : ∀ k : Nat,k ≤ w.length → ∀ u n,(u,n) ∈ refL m most w k ↔ reT m w k u n ∧ n ≤ most
 | 0,_,u,n => by
   simp only [refL,reT,List.mem_singleton,Prod.mk.injEq]
   constructor
   · rintro ⟨rfl,rfl⟩; exact ⟨⟨rfl,rfl⟩,h0⟩
   · rintro ⟨⟨rfl,rfl⟩,_⟩; exact ⟨rfl,rfl⟩
 | k + 1,hk,u,n => by
   have hv : w.getD k 0 ∈ m.a.al := hw _ (by rw [List.getD_eq_getElem?_getD,List.getElem?_eq_getElem (by omega)]; exact List.getElem_mem _)
   have he : ∀ d,m.eff (w.getD k 0) d = m.act d (m.idx (w.getD k 0)) := fun d => by
    unfold Md.eff
    rw [if_neg]
    intro g
    rw [g] at hv
    exact hm.no hv
   show (u,n) ∈ rowD m _ most _ _ ↔ _
   rw [mem_rowD _ (Nat.le_refl _)]
   constructor
   · rintro ⟨i,x,h1,h2,j,h3,h4,d,h5,h6⟩
     have hx := (refL_mem hm hn h0 hw k (by omega) x.1 x.2).1 (List.mem_of_getElem? h2)
     exact ⟨⟨x.1,x.2,j,d,hx.1,h3,h5,by rw [← he]; exact h6⟩,h4⟩
   · rintro ⟨⟨c,n0,j,d,h1,h2,h3,h4⟩,h5⟩
     obtain ⟨i,hi,hx⟩ := List.mem_iff_getElem.1 ((refL_mem hm hn h0 hw k (by omega) c n0).2 ⟨h1,by omega⟩)
     exact ⟨i,(c,n0),hi,by rw [List.getElem?_eq_getElem hi,hx],j,h2,h5,d,h3,by rw [he]; exact h4⟩
theorem rowD_len {e most : Int} (h28 : most ≤ 28) {L : List Rd} (h0 : ∀ x,x ∈ L → 0 ≤ x.2) : ∀ j : Nat,j ≤ L.length → (rowD m e most L j).length ≤ 29 * j
 | 0,_ => by simp [rowD]
 | j + 1,hj => by
   have hx : L[j]? = some L[j] := List.getElem?_eq_getElem (by omega)
   have h1 := waitD_len (m := m) e most (fuelD most L[j].2) L[j].1 L[j].2 (rowD m e most L j)
   have h2 := rowD_len (e := e) h28 h0 j (by omega)
   have h3 := h0 L[j] (List.getElem_mem _)
   rw [rowD_next hx]
   have : fuelD most L[j].2 ≤ 29 := by unfold fuelD; omega
   omega
theorem refL_len (hm : m.Ok) (hn : 0 < m.a.n) {most : Int} (h0 : 0 ≤ most) (h28 : most ≤ 28) {w : List Int} (hw : ∀ v,v ∈ w → v ∈ m.a.al) : ∀ k : Nat,k ≤ w.length → (refL m most w k).length ≤ 29 ^ k
 | 0,_ => by simp [refL]
 | k + 1,hk => by
   have h1 := refL_len hm hn h0 h28 hw k (by omega)
   have h2 := rowD_len (m := m) (e := w.getD k 0) h28 (L := refL m most w k) (fun x hx => (reT_is hm hn w k x.1 x.2 ((refL_mem hm hn h0 hw k (by omega) x.1 x.2).1 hx).1).2) (refL m most w k).length (Nat.le_refl _)
   show (rowD m _ most _ _).length ≤ _
   rw [Nat.pow_succ]
   omega
theorem dur_law (hm : m.Ok) (hf : Few m) (hn : 0 < m.a.n) (hl : LowB m) {w : List Int} (hw : ∀ v,v ∈ w → v ∈ m.a.al) : durV m w = refDu (refL m (4 * (w.length : Int) + 12) w w.length) (4 * (w.length : Int) + 12) :=
 dur_eq hm hf hn hl w _ fun u n => refL_mem hm hn (by omega) hw w.length (Nat.le_refl _) u n
end
theorem Sm5.low (x : Sm5) : LowB x.md := fun i hi => by
 have h4 : i < 4 := by simpa [Sm5.md,Sm5.acs] using hi
 have : x.md.at i = x.ac i := by
  refine Md.at_get ?_
  show (x.acs 4)[i]? = _
  unfold Sm5.acs
  rw [List.getElem?_map,List.getElem?_range h4]; rfl
 rw [this]
 exact (x.df_rg i).2
end
def eMdl (m : Md) (P : MdP) : Ent := (eInts m.a.al (.slice P.p.A1 m.a.al.length P.p.c1)).and ((eInts m.a.mr (.slice P.p.A2 m.a.mr.length P.p.c2)).and ((eEds m.a.ed (.slice P.p.A3 m.a.ed.length P.p.c3)).and (eOwn Ac.cells 3 56 m.ac (.slice P.B m.ac.length P.d))))
theorem eMdl_at {m : Md} {P : MdP} {w : World} (h : (eMdl m P).ok w) (hl : Lens m.a) : Md.At w m P :=
 ⟨⟨OwnI.ints h.1,OwnI.ints h.2.1,Own.reads (fun _ => rfl) h.2.2.1,hl.1,hl.2.1,hl.2.2⟩,Own.reads (fun _ => rfl) h.2.2.2⟩
theorem eMdl_cap {m : Md} {P : MdP} {w : World} (h : (eMdl m P).ok w) : m.a.al.length ≤ P.p.c1 := Own.cap h.1
theorem Sep.mdAt {n : Nat} {w0 w : World} {es : List Ent} {m : Md} {P : MdP} (S : Sep n w0 es w) (i : Nat) (hi : es[i]? = some (eMdl m P)) (hl : Lens m.a) : Md.At w m P := eMdl_at (S.get i hi) hl
theorem Sep.mdCap {n : Nat} {w0 w : World} {es : List Ent} {m : Md} {P : MdP} (S : Sep n w0 es w) (i : Nat) (hi : es[i]? = some (eMdl m P)) : m.a.al.length ≤ P.p.c1 := eMdl_cap (S.get i hi)
def GivesMdl (m : Md) (w : World) (e : Ending) (w' : World) : Prop := ∃ P : MdP,e = .returned (.agg (m.cells P).toArray) ∧ Hid (Sep w.heap.size w [eMdl m P] w')
theorem makeM_c (x : Sm5) (w : World) (hx : x.Ok) : Calls Try.prog 9 #[.agg x.cells.toArray] w (GivesMdl x.md w) := by
 refine (make44_c x w hx).mono ?_
 rintro e w' ⟨P,rfl,S⟩
 refine ⟨P,rfl,?_⟩
 have h : Sep w.heap.size w [eInts x.d4.au.al (.slice P.p.A1 x.d4.au.al.length P.p.c1),eInts x.d4.au.mr (.slice P.p.A2 x.d4.au.mr.length P.p.c2),eEds x.d4.au.ed (.slice P.p.A3 x.d4.au.ed.length P.p.c3),eOwn Ac.cells 3 56 (x.acs 4) (.slice P.B 4 P.d)] w' := S.out
 have h2 := (h.pick [2,3,0,1] (by decide)).join
 have h3 := (h2.pick [2,0,1] (by decide)).pick [0,2,1] (by decide)
 have h4 : Sep w.heap.size w [eInts x.d4.au.mr (.slice P.p.A2 x.d4.au.mr.length P.p.c2),(eEds x.d4.au.ed (.slice P.p.A3 x.d4.au.ed.length P.p.c3)).and (eOwn Ac.cells 3 56 (x.acs 4) (.slice P.B 4 P.d)),eInts x.d4.au.al (.slice P.p.A1 x.d4.au.al.length P.p.c1)] w' := h2.pick [2,0,1] (by decide)
 exact (h4.join.pick [1,0] (by decide)).join
theorem Sm5.cells_len {x : Sm5} (h : x.Ok) : x.cells.length = 34 := by
 have := Sm4.cells_len h.d
 simp [Sm5.cells,h.l,this]
theorem Sm5.info {x : Sm5} (h : x.Ok) : (Try.prog.info? 29).map (·.size) = some x.cells.length := by rw [Sm5.cells_len h]; kernel_rfl
structure Sml (m : Md) : Prop where
 ok : m.Ok
 few : Few m
 low : LowB m
 all : m.all = [0,1,2,3,4]
 al : m.a.al = [0,1,2,3]
 n : 0 < m.a.n
 len : m.ac.length = 4
 tk : m.tk = 4
 ev : ∀ i : Nat,i < 4 → m.ev i = i
 lens : Lens m.a
theorem Sm5.sml {x : Sm5} (h : x.Ok) : Sml x.md where
 ok := x.md_ok h
 few := x.few h
 low := x.low
 all := by show unionV [0,1,2,3] [4] = _; simp [unionV,mergeV,orF]
 al := rfl
 n := by
  show 0 < ((x.d4.n : Nat) : Int)
  have := Sm4.n_rg (Sm5.d4_ok h)
  omega
 len := by show (x.acs 4).length = 4; exact x.acs_len 4
 tk := rfl
 ev := fun i hi => by
  have : (x.acs 4)[i]? = some (x.ac i) := by
   unfold Sm5.acs
   rw [List.getElem?_map,List.getElem?_range hi]; rfl
  exact Md.ev_get (m := x.md) this
 lens := Sm4.lens (Sm5.d4_ok h)
structure Okc (m : Md) (c : Ck) : Prop where
 is_ : m.Is c
 df : ∀ i,i < m.ac.length → m.pr c.1 i = false → tmr c i = (m.at i).df
theorem Okc.e {m : Md} {c : Ck} (h : Okc m c) : stE m c = 0 := stE_zero h.is_ h.df
theorem Okc.start {m : Md} (hm : m.Ok) (hn : 0 < m.a.n) : Okc m m.start := ⟨Md.Is.start hm hn,fun i hi _ => by unfold Md.start; rw [Md.dfs_at hi]⟩
theorem Okc.tick {m : Md} (hm : m.Ok) {c d : Ck} (h : Okc m c) (ht : m.tick c = some d) : Okc m d := by
 refine ⟨h.is_.tick hm ht,fun i hi hp => ?_⟩
 unfold Md.tick at ht
 split at ht
 · cases ht
 · cases ht
   rw [Md.fall_at _ _ _ hi,if_neg]
   · exact h.df i hi hp
   · rintro ⟨_,g,_⟩
     have hp : m.pr c.1 i = false := hp
     rw [hp] at g; cases g
theorem Okc.act {m : Md} (hm : m.Ok) {c d : Ck} {i : Nat} (h : Okc m c) (ht : m.act c i = some d) : Okc m d := by
 refine ⟨h.is_.act hm ht,fun j hj hp => ?_⟩
 unfold Md.act at ht
 split at ht
 · cases ht
   rw [Md.then_at _ _ _ _ hj,if_neg]
   rintro ⟨_,_,_,g⟩
   have hp : m.pr (m.nx c.1 i) j = false := hp
   rw [hp] at g; cases g
 · cases ht
theorem Okc.eff {m : Md} (hm : m.Ok) {c d : Ck} {e : Int} (h : Okc m c) (ht : m.eff e c = some d) : Okc m d := by
 unfold Md.eff at ht
 split at ht
 · exact h.tick hm ht
 · exact h.act hm ht
theorem Okc.len {m : Md} (s : Sml m) {c : Ck} (h : Okc m c) : c.2.length = 4 := by rw [h.is_.len,s.len]
def GivesLast (dd : Ck) (bb : Bool) (r : Int) (w : World) (e : Ending) (w' : World) : Prop := ∃ (A : Option Addr) (cp : Nat),e = .returned (.tuple #[.agg #[.int .i64 dd.1,.slice A dd.2.length cp],.bool bb,.int .i64 r]) ∧ Hid (Sep w.heap.size w [eInts dd.2 (.slice A dd.2.length cp)] w')
def GivesLastR (dd : Ck) (bb : Bool) (w : World) (e : Ending) (w' : World) : Prop := ∃ (A : Option Addr) (cp : Nat),e = .returned (.tuple #[.agg #[.int .i64 dd.1,.slice A dd.2.length cp],.bool bb]) ∧ Hid (Sep w.heap.size w [eInts dd.2 (.slice A dd.2.length cp)] w')
theorem some_of {r : Option Ck} (h : r.isSome = true) : r = some (r.getD (0,[])) := by
 cases r with
 | none => cases h
 | some t => rfl
def U8E : Reading Int := fun _ x vs => vs = [.int .u8 x] ∧ 0 ≤ x ∧ x < 256
theorem U8E.stays : Stays U8E := fun _ _ _ _ _ h => h
abbrev U8sAt := SlAt U8E 1
theorem U8sAt.at {w : World} {A : Option Addr} {l : List Int} (h : U8sAt w A l) {k : Nat} (hk : k < l.length) : ∃ b off x,A = some ⟨b,off,none⟩ ∧ b < w.heap.size ∧ l[k]? = some x ∧ (0 ≤ x ∧ x < 256) ∧ w.cell? ⟨b,off + k,none⟩ = some (.int .u8 x) := by
 obtain ⟨b,off,x,vs,hA,hb,hx,_,hv,hc⟩ := SlAt.at h hk
 obtain ⟨rfl,h1,h2⟩ := hv
 exact ⟨b,off,x,hA,hb,hx,⟨h1,h2⟩,by have := hc 0 (.int .u8 x) rfl; simpa using this⟩
end Go.Proofs.Ytimdepdbcdbikaa
