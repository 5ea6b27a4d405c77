/-
  machine.unfold.
-/
import Derived.Test.YtimdepdbcdbikaaGreatBas01
import Derived.Test.YtimdepdbcdbikaaGreatBas15
import Derived.BigQuiet
import Derived.Great.BuildSlice
import Derived.Deep.MidRow
import Derived.Deep.CutBlock
import Derived.Deep.DeepCutAuto
set_option linter.unusedSimpArgs false
set_option linter.unusedVariables false
namespace Go.Proofs.YtimdepdbcdbikaaGreat
open Go.RowKit
set_option maxRecDepth 100000
theorem wpList_insertS {κ β : Type} [DecidableEq κ] {P : Program} {ops : Array Oper} {rest : List Oper} {o : Oper} {a : Act} {w : World} {n : Nat} {w0 : World} {es : List Ent} {Q : Exit → Act → World → Prop}
 (hg : o.guard = none) (m x v : Operand) (M T E : TypeId) (hop : o.op = Op.insert M m x v) {D : TypeDesc} {key : κ → Value} {ve : β → Value} {b : Nat} {f : κ → Option β} (S : Sep n w0 es w) (i : Nat) (hei : es[i]? = some (eMap key ve b f)) (K : KeyG P T D key) (hM : P.underlying M = some (.map T E))
 (y : κ) (z : β) (hm : a.eval m = .map (some b)) (hx : a.eval x = key y) (hv : a.eval v = ve z)
 (hK : ∀ w',Sep n w0 (es.set i (eMap key ve b (fun u => if u = y then some z else f u))) w' → wpList P ops Q rest (a.put o.dst undef) w') :
 wpList P ops Q (o :: rest) a w := by
 refine wpList_plain hg fun K' hK' => ?_
 obtain ⟨w',hrun,r1,r2⟩ := MapG.store K hM (S.get i hei) y z
 unfold Oper.wp
 simp [execOp,hop,hm,hx,hv,hrun,Result.andThen]
 exact hK' _ _ (hK w' (S.chg i hei _ (Off.grown r2) r1 (fun g hg => .inl hg)))
theorem run_buildCk (c : Ck) (hc : c.2.length ≤ 32) (w : World) : (Instr.buildSlice 103 1 #[(0,.agg (ckC c).toArray)]).run Tryz.prog w = .ok (.slice (some ⟨w.heap.size,0,none⟩) 1 1) (w.alloc (.cells (ckC c).toArray 91)) := by
 obtain ⟨ie,hie,hz,hs,_⟩ := info_parts ckInfo
 refine run_buildSlice w 103 91 1 _ _ ie (.agg (ckC (0,[])).toArray) Tryz.underlying103 hie hz (by rw [hs]; decide) (by rw [hs]; decide) ?_
 rw [hs]
 obtain ⟨z0,z1,z2,z3,z4,z5,z6,z7,z8,z9,z10,z11,z12,z13,z14,z15,z16,z17,z18,z19,z20,z21,z22,z23,z24,z25,z26,z27,z28,z29,z30,z31,e⟩ := len32 (ckT_len hc)
 obtain ⟨s,t⟩ := c
 unfold ckC
 simp only at e ⊢
 simp only [e]
 kernel_rfl
theorem wpList_buildCk {ops : Array Oper} {rest : List Oper} {o : Oper} {a : Act} {w : World} {Q : Exit → Act → World → Prop} (c : Ck) (hc : c.2.length ≤ 32) (hg : o.guard = none) (x : Operand) (ho : o.op = .buildSlice 103 1 #[(0,x)]) (hx : a.eval x = .agg (ckC c).toArray)
 (h : wpList Tryz.prog ops Q rest (a.put o.dst (.slice (some ⟨w.heap.size,0,none⟩) 1 1)) (w.alloc (.cells (ckC c).toArray 91))) : wpList Tryz.prog ops Q (o :: rest) a w :=
 wpList_plain hg fun _ hK => by
  unfold Oper.wp execOp
  have e : (#[(0,x)].map fun (y : Nat × Operand) => (y.1,a.eval y.2)) = #[(0,.agg (ckC c).toArray)] := by simp [hx]
  simp only [ho,Sem.run_bind,e,run_buildCk c hc,Result.andThen_ok]
  exact hK _ _ h
def idxC {K : Nat} (fs : List Ck) (c : CkK K) : Option Int := if c.1 ∈ fs then some ((idxK fs c.1 : Nat) : Int) else none
theorem idxC_push {K : Nat} {fs : List Ck} {t : CkK K} (h : ¬ t.1 ∈ fs) : (fun u : CkK K => if u = t then some (fs.length : Int) else idxC fs u) = idxC (fs ++ [t.1]) := by
 funext u
 unfold idxC
 by_cases e : u = t
 · subst e
   rw [if_pos rfl,if_pos (by simp),idxK_new h]
 · rw [if_neg e]
   have e2 : u.1 ≠ t.1 := fun g => e (Subtype.ext g)
   by_cases g : u.1 ∈ fs
   · rw [if_pos g,if_pos (by simp [g]),idxK_app g]
   · rw [if_neg g,if_neg (by simp [g,e2])]
theorem idxC_one {K : Nat} (t : CkK K) : (fun u : CkK K => if u = t then some (0 : Int) else none) = idxC [t.1] := by
 have := idxC_push (fs := []) (t := t) (by simp)
 rw [List.nil_append] at this
 rw [← this]
 funext u
 simp [idxC]
def GivesUf (m : Md) (w : World) (e : Ending) (w' : World) : Prop := ∃ (fs : List Ck) (ed : List Ed) (p : AuP) (AF : Option Addr) (cF : Nat),e = .returned (.tuple #[(tAu m fs ed).val p,.slice AF fs.length cF,.int .i64 0]) ∧ Hid (Sep w.heap.size w (eAu (tAu m fs ed) p ++ [eCks fs (.slice AF fs.length cF)]) w') ∧ Hid (Ufd m fs ed) ∧ Hid (fs.length ≤ 4000)
set_option maxHeartbeats 8000000 in
theorem unfold_c (m : Md) (q : McP) (w : World) (hm : m.Ok) (hq : Mch w m q) (hn : 0 < m.a.n) (hf : Few m) (hc : m.a.al.length ≤ q.P.p.c1) :
 Calls Tryz.prog 44 #[.pointer (some ⟨q.g,0,none⟩)] w (GivesUf m w) := by
 have HM := Lib.hid hm
 have HQ := Lib.hid hq
 have HF := Lib.hid hf
 have HC := Lib.hid hc
 have h32 := hm.len32
 have n0 := hm.a.n0
 have hn1 := hm.a.n1
 obtain ⟨N,hN⟩ := Int.eq_ofNat_of_zero_le n0
 have hNp : 0 < N := by omega
 have hN4 : N ≤ 4096 := by omega
 have HN := Lib.hid hN
 have HNT : Hid (m.a.n.toNat = N) := by rw [Hid,hN]; rfl
 have HMR : Hid (∀ x,x ∈ m.a.mr → 0 ≤ x ∧ x < (N : Int)) := fun x hx => by rw [← hN]; exact hm.a.mem hx
 have HML : Hid (m.a.mr.length ≤ 140737488355328) := hq.md.a.lmk
 have hdl : Hid (m.dfs.length = m.ac.length) := by simp [Md.dfs,Hid]
 have HST : Hid (m.start.2.length = m.ac.length) := by simp [Md.start,Md.dfs,Hid]
 have HALE : Hid (m.all.length ≤ 33) := all_len hm
 have hmk := make_run (P := Tryz.prog) 133 4 (.bool false) 1 Tryz.underlying133 boolInfo rfl N (by omega) (by omega)
 have hmm0 := @run_makeMap Tryz.prog
 obtain ⟨A2,hA2⟩ : ∃ A,A = q.P.p.A2 := ⟨_,rfl⟩
 have HA2 := Lib.hid hA2
 clear hm hq hn hf hc n0 hn1 hN hA2
 go_enter Tryz.func44,Tryz.ntmps44
 obtain ⟨rb,hrb⟩ : ∃ g,g = w.heap.size := ⟨_,rfl⟩
 go_upto_region 1 with fail
 rw [← hrb]
 refine wp_world (fun W => Sep w.heap.size w [eBlk rb 34 [.slice none 0 0,.int .i64 0,.slice none 0 0,.slice none 0 0]] W) ((Sep.here w).alloc' _ [_,_,_,_] rfl hrb) fun W S => ?_
 have S0 := Lib.hid S
 clear S hrb
 have HQ1 := Lib.hid (HQ.out.below S0.out.below)
 have k0 := (HQ1.out.blk.cell 0).trans (mcell_m (by decide))
 have k1 := (HQ1.out.blk.cell 1).trans (mcell_m (by decide))
 have k2 := (HQ1.out.blk.cell 2).trans (mcell_m (by decide))
 have k3 := (HQ1.out.blk.cell 3).trans (mcell_m (by decide))
 have k4 := (HQ1.out.blk.cell 4).trans (mcell_m (by decide))
 have k5 := (HQ1.out.blk.cell 5).trans (mcell_m (by decide))
 simp only [List.getElem?_cons_succ,List.getElem?_cons_zero] at k0 k1 k2 k3 k4 k5
 have EV := Lib.hid (events_c m q.P W HM.out HQ1.out.md HC.out)
 dsimp only [Md.cells] at EV
 go_wp2_with fail
 refine EV.out.mono ?_
 rintro e w2 ⟨AA,cA,rfl,O,hb⟩
 have S2 : Hid (Sep w.heap.size w [eInts m.all (.slice AA m.all.length cA),eBlk rb 34 [.slice none 0 0,.int .i64 0,.slice none 0 0,.slice none 0 0]] w2) := S0.out.newI O.out hb
 clear S0 O hb EV k0 k1 k2 k3 k4 k5 HQ1
 have HQ1 := Lib.hid (HQ.out.below S2.out.below)
 have k1 : w2.cell? ⟨q.g,1,none⟩ = some (.int .i64 (N : Int)) := by rw [← HN.out]; exact (HQ1.out.blk.cell 1).trans (mcell_m (by decide))
 obtain ⟨ob,hob⟩ : ∃ g,g = w2.heap.size := ⟨_,rfl⟩
 go_upto_region 3 with fail
 rw [← hob]
 refine wp_world (fun W => Sep w.heap.size w [eBlk ob 34 [.slice AA m.all.length cA,.int .i64 0,.slice none 0 0,.slice none 0 0],eInts m.all (.slice AA m.all.length cA),eBlk rb 34 [.slice none 0 0,.int .i64 0,.slice none 0 0,.slice none 0 0]] W) (S2.out.alloc' _ [_,_,_,_] rfl hob) fun W S => ?_
 have S3 := Lib.hid S
 clear S S2 hob k1 HQ1
 have HQ1 := Lib.hid (HQ.out.below S3.out.below)
 have k1 : W.cell? ⟨q.g,1,none⟩ = some (.int .i64 (N : Int)) := by rw [← HN.out]; exact (HQ1.out.blk.cell 1).trans (mcell_m (by decide))
 have k2 : W.cell? ⟨q.g,2,none⟩ = some (.slice A2 m.a.mr.length q.P.p.c2) := by rw [HA2.out]; exact (HQ1.out.blk.cell 2).trans (mcell_m (by decide))
 have hz : ((N : Int) == 0) = false := beq_eq_false_iff_ne.2 (by omega)
 obtain ⟨gm,hgm⟩ : ∃ g,g = W.heap.size := ⟨_,rfl⟩
 go_upto_region 6 with fail
 rw [← hgm]
 refine wp_world (fun V => Sep w.heap.size w [eBlk gm 4 (mkB N (fun s => decide ((s : Int) ∈ m.a.mr.take 0))),eBlk ob 34 [.slice AA m.all.length cA,.int .i64 0,.slice none 0 0,.slice none 0 0],eInts m.all (.slice AA m.all.length cA),eBlk rb 34 [.slice none 0 0,.int .i64 0,.slice none 0 0,.slice none 0 0]] V) (by
  have h := S3.out.alloc' 4 (mkB N fun _ => false) (o := .cells (List.replicate N (.bool false)).toArray 4) (by rw [← mkB_rep]) hgm
  simpa using h) fun W2 S => ?_
 have S4 := Lib.hid S
 clear S S3 hgm k1 k2 HQ1 hz hmk
 have HQ1 := Lib.hid (HQ.out.below S4.out.below)
 have k2 : W2.cell? ⟨q.g,2,none⟩ = some (.slice A2 m.a.mr.length q.P.p.c2) := by rw [HA2.out]; exact (HQ1.out.blk.cell 2).trans (mcell_m (by decide))
 go_wp2_with fail
 clear k2 HQ1
 have HML2 := HML.out
 go_loopw [49] (fun i wr => ∃ k : Nat,i = .int .i64 (k : Int) ∧ k ≤ m.a.mr.length ∧ Hid (Sep w.heap.size w [eBlk gm 4 (mkB N (fun s => decide ((s : Int) ∈ m.a.mr.take k))),eBlk ob 34 [.slice AA m.all.length cA,.int .i64 0,.slice none 0 0,.slice none 0 0],eInts m.all (.slice AA m.all.length cA),eBlk rb 34 [.slice none 0 0,.int .i64 0,.slice none 0 0,.slice none 0 0]] wr)) (fun i _ => m.a.mr.length - (intOf i).toNat)
 case atStart => exact ⟨0,rfl,Nat.zero_le _,S4.out⟩
 case round =>
  clear S4
  obtain ⟨k,rfl,hk,S⟩ := hrel
  by_cases hlt : k < m.a.mr.length
  · obtain ⟨b,off,x0,hAe,hb,hx,cx⟩ := IntsAt.at (show IntsAt wr A2 m.a.mr by rw [HA2.out]; exact (HQ.out.below S.out.below).md.a.mr) hlt
    subst hAe
    obtain ⟨x,rfl⟩ := Int.eq_ofNat_of_zero_le (HMR.out x0 (List.mem_of_getElem? hx)).1
    have hxN : x < N := by have := (HMR.out _ (List.mem_of_getElem? hx)).2; omega
    have gf := BlkAt.free (S.out.get 0 rfl) x
    have gc := (BlkAt.cell (S.out.get 0 rfl) x).trans (mkB_get hxN)
    have S2 : Hid (Sep w.heap.size w [eBlk gm 4 (mkB N (fun s => decide ((s : Int) ∈ m.a.mr.take (k + 1)))),eBlk ob 34 [.slice AA m.all.length cA,.int .i64 0,.slice none 0 0,.slice none 0 0],eInts m.all (.slice AA m.all.length cA),eBlk rb 34 [.slice none 0 0,.int .i64 0,.slice none 0 0,.slice none 0 0]] (wr.setCell ⟨gm,x,none⟩ (.bool true))) := by
     have h := S.out.set 0 rfl x (.bool true)
     rw [mkB_set] at h
     have e : (mkB N fun t => decide (t = x) || decide ((t : Int) ∈ m.a.mr.take k)) = mkB N fun t => decide ((t : Int) ∈ m.a.mr.take (k + 1)) := mkB_congr fun t _ => by
      rw [take_snoc hx]
      by_cases g : t = x
      · subst g; simp
      · have : ¬ (t : Int) = (x : Int) := by omega
        simp [g,this]
     rw [e] at h
     exact h
    clear S hx hb
    go_wp2_with fail
    go_roundw
    case rel => exact ⟨k + 1,by go_num,by omega,S2.out⟩
    case measure => simp [intOf]; omega
  · obtain rfl : k = m.a.mr.length := by omega
    have S1 : Hid (Sep w.heap.size w [eBlk gm 4 (mkB N (fun s => decide ((s : Int) ∈ m.a.mr))),eBlk ob 34 [.slice AA m.all.length cA,.int .i64 0,.slice none 0 0,.slice none 0 0],eInts m.all (.slice AA m.all.length cA),eBlk rb 34 [.slice none 0 0,.int .i64 0,.slice none 0 0,.slice none 0 0]] wr) := by
     have h := S.out
     rw [List.take_length] at h
     exact h
    clear S
    have HQ1 := Lib.hid (HQ.out.below S1.out.below)
    go_upto_region 11 with fail
    obtain ⟨sb,hsb⟩ : ∃ g,g = wr.heap.size := ⟨_,rfl⟩
    have hs32 : m.start.2.length ≤ 32 := by rw [HST.out]; exact h32
    go_upto_region 12 with (first | refine wpList_load_mid rfl 89 _ rfl q.g 6 rfl (ckT m.dfs) _ (HQ1.out.dfRange h32) Tryz.underlying89 rfl (by rw [ckT_info,ckT_len (by rw [hdl.out]; exact h32)]) ?_ | refine wpList_buildTo rfl 91 _ rfl (some 61) rfl (ckC m.start).toArray (Eq.trans (congrArg _ (by kernel_rfl)) (built_ck1 (t := m.dfs) (by rw [hdl.out]; exact h32))) ?_ | refine wpList_ckNew m.start hs32 rfl _ _ rfl _ rfl rfl (by kernel_rfl) ?_)
    rw [← hsb]
    refine wp_world (fun V => Sep w.heap.size w [eBlk sb 91 (ckC m.start),eBlk gm 4 (mkB N (fun s => decide ((s : Int) ∈ m.a.mr))),eBlk ob 34 [.slice AA m.all.length cA,.int .i64 0,.slice none 0 0,.slice none 0 0],eInts m.all (.slice AA m.all.length cA),eBlk rb 34 [.slice none 0 0,.int .i64 0,.slice none 0 0,.slice none 0 0]] V) (S1.out.alloc' _ (ckC m.start) rfl hsb) fun W3 S => ?_
    have S5 := Lib.hid S
    clear S S1 hsb HQ1
    obtain ⟨gf,hgf⟩ : ∃ g,g = W3.heap.size := ⟨_,rfl⟩
    go_upto_region 13 with (first | refine wpList_ckLoad m.start sb (S5.out.get 0 rfl) hs32 rfl _ rfl rfl ?_ | refine wpList_buildCk m.start hs32 rfl _ rfl rfl ?_)
    rw [← hgf]
    refine wp_world (fun V => Sep w.heap.size w [eCks [m.start] (.slice (some ⟨gf,0,none⟩) 1 1),eBlk sb 91 (ckC m.start),eBlk gm 4 (mkB N (fun s => decide ((s : Int) ∈ m.a.mr))),eBlk ob 34 [.slice AA m.all.length cA,.int .i64 0,.slice none 0 0,.slice none 0 0],eInts m.all (.slice AA m.all.length cA),eBlk rb 34 [.slice none 0 0,.int .i64 0,.slice none 0 0,.slice none 0 0]] V) ((S5.out.alloc' 91 (ckC m.start) rfl hgf).own 0 rfl encC 33 [m.start] (by simp [encC_eq hs32]) encC_len (by simp [maxLen])) fun W4 S => ?_
    have S6 := Lib.hid S
    clear S S5 hgf
    obtain ⟨mp,hmp⟩ : ∃ g,g = W4.heap.size := ⟨_,rfl⟩
    have S7 : Hid (Sep w.heap.size w [eMap (keyC (K := m.ac.length)) veI mp (idxC []),eCks [m.start] (.slice (some ⟨gf,0,none⟩) 1 1),eBlk sb 91 (ckC m.start),eBlk gm 4 (mkB N (fun s => decide ((s : Int) ∈ m.a.mr))),eBlk ob 34 [.slice AA m.all.length cA,.int .i64 0,.slice none 0 0,.slice none 0 0],eInts m.all (.slice AA m.all.length cA),eBlk rb 34 [.slice none 0 0,.int .i64 0,.slice none 0 0,.slice none 0 0]] (W4.alloc (.map #[] 0))) := by
     have h := S6.out.allocMap (keyC (K := m.ac.length)) veI hmp
     have e : (fun _ => none : CkK m.ac.length → Option Int) = idxC [] := by funext u; simp [idxC]
     rw [e] at h
     exact h
    have hst := HST.out
    go_upto_region 14 with (first | refine wpList_ckLoad m.start sb (S7.out.get 2 rfl) hs32 rfl _ rfl rfl ?_ | (rw [← hmp]; refine wpList_insertS rfl _ _ _ 134 91 3 rfl S7.out 0 rfl (okC h32) Tryz.underlying134 ⟨m.start,hst⟩ 0 rfl rfl rfl ?_))
    intro w5 S8
    have S9 : Hid (Sep w.heap.size w [eMap (keyC (K := m.ac.length)) veI mp (idxC [m.start]),eCks [m.start] (.slice (some ⟨gf,0,none⟩) 1 1),eBlk sb 91 (ckC m.start),eBlk gm 4 (mkB N (fun s => decide ((s : Int) ∈ m.a.mr))),eBlk ob 34 [.slice AA m.all.length cA,.int .i64 0,.slice none 0 0,.slice none 0 0],eInts m.all (.slice AA m.all.length cA),eBlk rb 34 [.slice none 0 0,.int .i64 0,.slice none 0 0,.slice none 0 0]] w5) := by
     have h := idxC_one (⟨m.start,hst⟩ : CkK m.ac.length)
     have e : (fun u : CkK m.ac.length => if u = ⟨m.start,hst⟩ then some (0 : Int) else idxC [] u) = idxC [m.start] := by
      rw [← h]; funext u; simp [idxC]
     rw [← hmp,e] at S8
     exact S8
    try rw [← hmp]
    clear S8 S7 S6 hst
    go_upto_region 14 with fail
    try rw [← hmp]
    refine wp_world (fun V => Sep w.heap.size w [eBlk ob 34 [.slice AA m.all.length cA,.int .i64 0,.slice none 0 0,.slice none 0 0],eInts [] (.slice none 0 0),eEds [] (.slice none 0 0),eCks [m.start] (.slice (some ⟨gf,0,none⟩) 1 1),eMap (keyC (K := m.ac.length)) veI mp (idxC [m.start]),eBlk gm 4 (mkB N (fun s => decide ((s : Int) ∈ m.a.mr))),eInts m.all (.slice AA m.all.length cA),eBlk rb 34 [.slice none 0 0,.int .i64 0,.slice none 0 0,.slice none 0 0]] V) (((S9.out.nilOwn Ed.cells 3 76).nilOwn encI 1 3).pick [6,0,1,3,2,5,7,8] (by decide)) fun W5 S => ?_
    have S10 := Lib.hid S
    clear S S9 hmp
    go_wp2_with fail
    have HMD : Hid (∀ i fs ed,UO m i fs ed → fs.length ≤ 4000 ∧ ed.length ≤ 33 * i) := fun i fs ed h => ⟨HF.out fs h.nd h.is,h.el⟩
    go_loopw [13,11] (fun vi vl wr => ∃ (i : Nat) (fs : List Ck) (ed : List Ed) (MK : List Int) (AF : Option Addr) (cF : Nat) (AM : Option Addr) (cM : Nat) (AE : Option Addr) (cE : Nat),vi = .int .i64 (i : Int) ∧ vl = .slice AF fs.length cF ∧ Hid (UO m i fs ed) ∧ Hid (MK = mkV (mkF m fs) i) ∧ Hid (Sep w.heap.size w [eBlk ob 34 [.slice AA m.all.length cA,.int .i64 0,.slice AM MK.length cM,.slice AE ed.length cE],eInts MK (.slice AM MK.length cM),eEds ed (.slice AE ed.length cE),eCks fs (.slice AF fs.length cF),eMap (keyC (K := m.ac.length)) veI mp (idxC fs),eBlk gm 4 (mkB N (fun s => decide ((s : Int) ∈ m.a.mr))),eInts m.all (.slice AA m.all.length cA),eBlk rb 34 [.slice none 0 0,.int .i64 0,.slice none 0 0,.slice none 0 0]] wr)) (fun vi _ _ => 4001 - (intOf vi).toNat)
    case atStart => exact ⟨0,[m.start],[],[],some ⟨gf,0,none⟩,1,none,0,none,0,rfl,rfl,UO.start HM.out (by rw [HN.out]; omega),rfl,S10.out⟩
    case round =>
     clear S10
     obtain ⟨i,fs,ed,MK,AF,cF,AM,cM,AE,cE,rfl,rfl,UH,HMK,S⟩ := hrel
     obtain ⟨hfl,hel⟩ := HMD.out _ _ _ UH.out
     have hil := UH.out.il
     by_cases hlt : i < fs.length
     · obtain ⟨v,hv⟩ : ∃ v,fs[i]? = some v := ⟨_,List.getElem?_eq_getElem hlt⟩
       have hvis := UH.out.is v (List.mem_of_getElem? hv)
       obtain ⟨s,hs⟩ := Int.eq_ofNat_of_zero_le hvis.s.1
       have hsN : s < N := by have := hvis.s.2; rw [HN.out] at this; omega
       have hv32 : v.2.length ≤ 32 := by rw [hvis.len]; exact h32
       have UIH : Hid (UI m i 0 v fs ed) := UH.out.row hv
       have HVI := Lib.hid hvis
       have HV := Lib.hid hv
       have HS := Lib.hid hs
       obtain ⟨bf,of,hAF,hrg⟩ := CksAt.at (Own.reads encC_len (S.out.get 3 rfl)) hv hv32
       subst hAF
       have cv : wr.cell? ⟨bf,of + i * 33,none⟩ = some (.int .i64 (s : Int)) := by have := hrg 0 (.int .i64 v.1) rfl; rw [← HS.out]; simpa using this
       have gc := (BlkAt.cell (S.out.get 5 rfl) s).trans (mkB_get hsN)
       obtain ⟨u,hu⟩ : ∃ u,u = decide ((s : Int) ∈ m.a.mr) := ⟨_,rfl⟩
       rw [← hu] at gc
       have HU := Lib.hid hu
       have HMF : Hid (mkF m fs i = u) := by rw [Hid,hu,← hs]; exact mkF_at hv
       have hml : MK.length ≤ 4000 := by rw [HMK.out]; have := mkV_len (mkF m fs) i; omega
       have HMLE := Lib.hid hml
       clear hv hvis hs hrg hu UH hml
       go_upto_if 80 with fail
       go_cut [80] (fun v80 wx => ∃ (MK' : List Int) (AM' : Option Addr) (cM' : Nat),Hid (MK' = mkV (mkF m fs) (i + 1)) ∧ Hid (Sep w.heap.size w [eBlk ob 34 [.slice AA m.all.length cA,.int .i64 0,.slice AM' MK'.length cM',.slice AE ed.length cE],eInts MK' (.slice AM' MK'.length cM'),eEds ed (.slice AE ed.length cE),eCks fs (.slice (some ⟨bf,of,none⟩) fs.length cF),eMap (keyC (K := m.ac.length)) veI mp (idxC fs),eBlk gm 4 (mkB N (fun s => decide ((s : Int) ∈ m.a.mr))),eInts m.all (.slice AA m.all.length cA),eBlk rb 34 [.slice none 0 0,.int .i64 0,.slice none 0 0,.slice none 0 0]] wx))
       case first =>
        cases u
        · have HK : Hid (MK = mkV (mkF m fs) (i + 1)) := by rw [Hid,mkV_no HMF.out]; exact HMK.out
          go_wp2_with fail
          go_meet
          exact ⟨MK,AM,cM,HK.out,S.out⟩
        · have HK : Hid (MK ++ [(i : Int)] = mkV (mkF m fs) (i + 1)) := by rw [Hid,mkV_yes HMF.out,← HMK.out]
          have o2 := BlkAt.cell (S.out.get 0 rfl) 2; simp only [List.getElem?_cons_succ,List.getElem?_cons_zero] at o2
          have hmle := HMLE.out
          go_wp2_with (at_builtin; refine wpList_pushS rfl _ _ 31 rfl (S.out.alloc 3 [.int .i64 (i : Int)]) 2 rfl Tryz.underlying31 _ 8 intInfo rfl (by decide) rfl (i : Int) _ rfl rfl (one_cell _ _ [_] _ rfl) (encI_one _) (by omega) (by decide) ?_)
          intro A1 c1 w6 S9 _
          have S10 : Hid (Sep w.heap.size w [eBlk ob 34 [.slice AA m.all.length cA,.int .i64 0,.slice AM MK.length cM,.slice AE ed.length cE],eInts (MK ++ [(i : Int)]) (.slice A1 (MK.length + 1) c1),eEds ed (.slice AE ed.length cE),eCks fs (.slice (some ⟨bf,of,none⟩) fs.length cF),eMap (keyC (K := m.ac.length)) veI mp (idxC fs),eBlk gm 4 (mkB N (fun s => decide ((s : Int) ∈ m.a.mr))),eInts m.all (.slice AA m.all.length cA),eBlk rb 34 [.slice none 0 0,.int .i64 0,.slice none 0 0,.slice none 0 0]] w6) := S9.drop1
          clear S9 S cv gc o2
          have o2 := BlkAt.cell (S10.out.get 0 rfl) 2; simp only [List.getElem?_cons_succ,List.getElem?_cons_zero] at o2
          have o2f := BlkAt.free (S10.out.get 0 rfl) 2
          have S11 : Hid (Sep w.heap.size w [eBlk ob 34 [.slice AA m.all.length cA,.int .i64 0,.slice A1 (MK ++ [(i : Int)]).length c1,.slice AE ed.length cE],eInts (MK ++ [(i : Int)]) (.slice A1 (MK ++ [(i : Int)]).length c1),eEds ed (.slice AE ed.length cE),eCks fs (.slice (some ⟨bf,of,none⟩) fs.length cF),eMap (keyC (K := m.ac.length)) veI mp (idxC fs),eBlk gm 4 (mkB N (fun s => decide ((s : Int) ∈ m.a.mr))),eInts m.all (.slice AA m.all.length cA),eBlk rb 34 [.slice none 0 0,.int .i64 0,.slice none 0 0,.slice none 0 0]] (w6.setCell ⟨ob,2,none⟩ (.slice A1 (MK.length + 1) c1))) := by
           have h := S10.out.set 0 rfl 2 (.slice A1 (MK.length + 1) c1)
           rw [show (MK ++ [(i : Int)]).length = MK.length + 1 by simp]
           exact h
          clear S10 hmle
          go_wp2_with fail
          go_meet
          exact ⟨MK ++ [(i : Int)],A1,c1,HK.out,S11.out⟩
       case rest =>
        clear S cv gc HMK HMLE HMF HU
        obtain ⟨MK',AM',cM',HMK,S⟩ := hcut
        go_wp2_with fail
        have HUI := UIH
        clear UIH
        go_loopw [89,11] (fun vj vl wr => ∃ (j : Nat) (fs : List Ck) (ed : List Ed) (AF : Option Addr) (cF : Nat) (AE : Option Addr) (cE : Nat),vj = .int .i64 (j : Int) ∧ vl = .slice AF fs.length cF ∧ j ≤ m.all.length ∧ Hid (UI m i j v fs ed) ∧ Hid (MK' = mkV (mkF m fs) (i + 1)) ∧ Hid (Sep w.heap.size w [eBlk ob 34 [.slice AA m.all.length cA,.int .i64 0,.slice AM' MK'.length cM',.slice AE ed.length cE],eInts MK' (.slice AM' MK'.length cM'),eEds ed (.slice AE ed.length cE),eCks fs (.slice AF fs.length cF),eMap (keyC (K := m.ac.length)) veI mp (idxC fs),eBlk gm 4 (mkB N (fun s => decide ((s : Int) ∈ m.a.mr))),eInts m.all (.slice AA m.all.length cA),eBlk rb 34 [.slice none 0 0,.int .i64 0,.slice none 0 0,.slice none 0 0]] wr)) (fun vj _ _ => m.all.length - (intOf vj).toNat)
        case atStart => exact ⟨0,fs,ed,some ⟨bf,of,none⟩,cF,AE,cE,rfl,rfl,Nat.zero_le _,HUI.out,HMK.out,S.out⟩
        case round =>
         clear S HMK HUI HV hlt hfl hel hil
         obtain ⟨j,fs,ed,AF,cF,AE,cE,rfl,rfl,hj,UIJ,HMK,S⟩ := hrel
         have hfl : fs.length ≤ 4000 := HF.out fs UIJ.out.nd UIJ.out.is
         have hel := UIJ.out.el
         have hale := HALE.out
         by_cases hlj : j < m.all.length
         · obtain ⟨ba,oa,e,hAe,hb,he,ce⟩ := IntsAt.at (S.out.ints 6 rfl) hlj
           have HE := Lib.hid he
           have hmem : e = m.tk ∨ e ∈ m.a.al := (mem_all.1 (List.mem_of_getElem? he)).symm
           have HMEM := Lib.hid hmem
           obtain ⟨bf,of,hAF,_⟩ := CksAt.at (Own.reads encC_len (S.out.get 3 rfl)) UIJ.out.at_ hv32
           have hif := (List.getElem?_eq_some_iff.1 UIJ.out.at_).1
           have HAT := Lib.hid UIJ.out.at_
           obtain ⟨r,hr⟩ : ∃ r,r = m.eff e v := ⟨_,rfl⟩
           obtain ⟨d,hd⟩ : ∃ d,d = r.getD (0,[]) := ⟨_,rfl⟩
           obtain ⟨bb,hbb⟩ : ∃ b,b = r.isSome := ⟨_,rfl⟩
           have HEF : Hid (ckV (m.eff e v) = .tuple #[.agg (ckC d).toArray,.bool bb]) := by rw [Hid,← hr,hd,hbb]; rfl
           have HR : Hid ((bb = true ∧ m.eff e v = some d) ∨ (bb = false ∧ m.eff e v = none)) := by
            rw [Hid,← hr,hd,hbb]
            cases r with
            | none => exact .inr ⟨rfl,rfl⟩
            | some x => exact .inl ⟨rfl,rfl⟩
           have HD32 : Hid (d.2.length ≤ 32) := by
            rw [Hid,hd]
            cases hx : r with
            | none => simp
            | some x => simp only [Option.getD_some]; rw [(HVI.out.eff HM.out (show m.eff e v = some x by rw [← hr,hx])).len]; exact h32
           clear hr hd hbb he hmem hb
           subst hAF
           subst hAe
           go_upto_region 22 with fail
           go_cut [16,17] (fun v16 v17 wx => ∃ nb,v16 = .pointer (some ⟨nb,0,none⟩) ∧ v17 = .bool bb ∧ Hid (Sep w.heap.size w [eBlk nb 91 (ckC d),eBlk ob 34 [.slice (some ⟨ba,oa,none⟩) m.all.length cA,.int .i64 0,.slice AM' MK'.length cM',.slice AE ed.length cE],eInts MK' (.slice AM' MK'.length cM'),eEds ed (.slice AE ed.length cE),eCks fs (.slice (some ⟨bf,of,none⟩) fs.length cF),eMap (keyC (K := m.ac.length)) veI mp (idxC fs),eBlk gm 4 (mkB N (fun s => decide ((s : Int) ∈ m.a.mr))),eInts m.all (.slice (some ⟨ba,oa,none⟩) m.all.length cA),eBlk rb 34 [.slice none 0 0,.int .i64 0,.slice none 0 0,.slice none 0 0]] wx))
           case first =>
            have S1 := Lib.hid S.out.drew
            refine wp_region_held_drew (S := (fun V => Sep w.heap.size w [eCks fs (.slice (some ⟨bf,of,none⟩) fs.length cF)] V)) (by kernel_rfl) ?_ (fun hHeld => ?_)
            · exact S1.out.pick [3] (by decide)
            generalize hwz : wr.drew = w1 at *
            clear hwz
            rw [show Array.replicate _ false = #[false,false,false,false,false,false,false,false,false,false,false,false,false,false] from rfl]
            refine tkP 0 rfl hHeld ?_
            try simp only [sx]
            refine tkP 1 rfl hHeld ?_
            try simp only [sx]
            refine tkP 3 rfl hHeld ?_
            try simp only [sx]
            refine tkP 4 rfl hHeld ?_
            try simp only [sx]
            refine tkP 5 rfl hHeld ?_
            try simp only [sx]
            refine wpAnyH_take (i := 6) (v := _) rfl (by kernel_rfl) (by kernel_rfl) (by kernel_rfl) (fun _ _ _ h => h) (yieldsIf_load_mid (by kernel_rfl) 91 (.tmp 99) rfl bf (of + i * 33) rfl (ckC v) _ (fun V hSw => CksAt.range (Own.reads encC_len (Sep.get (show Sep w.heap.size w _ V from hSw) 0 rfl)) HAT.out hv32) Tryz.underlying91 rfl (by rw [ck_info,ckC_len hv32])) hHeld ?_
            try simp only [sx]
            refine act_name ?_
            intro A0 hA0
            obtain ⟨F,hF⟩ : ∃ F : Value → Value → Value → Value → Value → Value → Value → Act,Hid (∀ x96 x101 x93 x102 x103 x16 x17,F x96 x101 x93 x102 x103 x16 x17 = (((((((A0.put (some 96) x96).put (some 101) x101).put (some 93) x93).put (some 102) x102).put (some 103) x103).put (some 16) x16).put (some 17) x17)) := ⟨fun x96 x101 x93 x102 x103 x16 x17 => (((((((A0.put (some 96) x96).put (some 101) x101).put (some 93) x93).put (some 102) x102).put (some 103) x103).put (some 16) x16).put (some 17) x17),fun _ _ _ _ _ _ _ => rfl⟩
            subst hA0
            unfold Hid at hF
            simp only [List.getElem_toArray,List.getElem_cons_zero,List.getElem_cons_succ,Act.put,List.setIfInBounds_toArray,List.set_cons_zero,List.set_cons_succ] at hF
            have HF := Lib.hid hF
            clear hF
            obtain ⟨INV,hI⟩ : ∃ I : Array Bool → Act → World → Prop,Hid (∀ l_ a_ W_,I l_ a_ W_ ↔ ∃ (fb2 fb7 fb8 fb9 fb10 fb11 fb12 fb13 : Bool) (x96 x101 x93 x102 x103 x16 x17 : Value) (E_fn E_nb : Ent),l_ = #[true,true,fb2,true,true,true,true,fb7,fb8,fb9,fb10,fb11,fb12,fb13] ∧ a_ = F x96 x101 x93 x102 x103 x16 x17 ∧ Hid (Sep w.heap.size w [E_fn,E_nb,eBlk ob 34 [.slice (some ⟨ba,oa,none⟩) m.all.length cA,.int .i64 0,.slice AM' MK'.length cM',.slice AE ed.length cE],eInts MK' (.slice AM' MK'.length cM'),eEds ed (.slice AE ed.length cE),eCks fs (.slice (some ⟨bf,of,none⟩) fs.length cF),eMap (keyC (K := m.ac.length)) veI mp (idxC fs),eBlk gm 4 (mkB N (fun s => decide ((s : Int) ∈ m.a.mr))),eInts m.all (.slice (some ⟨ba,oa,none⟩) m.all.length cA),eBlk rb 34 [.slice none 0 0,.int .i64 0,.slice none 0 0,.slice none 0 0]] W_) ∧ True ∧ Hid (fb7 = true → fb2 = true) ∧ Hid (fb8 = true → fb7 = true) ∧ Hid (fb9 = true → fb8 = true) ∧ Hid (fb10 = true → fb8 = true) ∧ Hid (fb12 = true → fb9 = true) ∧ Hid (fb12 = true → fb11 = true) ∧ Hid (fb13 = true → fb10 = true) ∧ Hid (fb13 = true → fb12 = true) ∧ Hid (fb7 = true → x101 = .tuple #[.agg (ckC d).toArray,.bool bb]) ∧ Hid (fb8 = true → x93 = .tuple #[.agg (ckC d).toArray,.bool bb]) ∧ Hid (fb9 = true → x102 = .agg (ckC d).toArray) ∧ Hid (fb10 = true → x103 = .bool bb) ∧ Hid (fb13 = true → x17 = .bool bb) ∧ Hid (fb2 = false → E_fn = eNo) ∧ Hid (fb2 = true → E_fn = eEff m q e x96) ∧ Hid (fb11 = false → E_nb = eNo) ∧ Hid (fb11 = true → fb12 = false → ∃ g,x16 = .pointer (some ⟨g,0,none⟩) ∧ E_nb = eBlk g 91 (ckC (0,[]))) ∧ Hid (fb12 = true → ∃ g,x16 = .pointer (some ⟨g,0,none⟩) ∧ E_nb = eBlk g 91 (ckC d))) := ⟨_,fun _ _ _ => Iff.rfl⟩
            refine wpAnyH_inv (INV := INV) (D := [[],[],[0,1],[],[],[3,4],[5],[2,6],[7],[8],[8],[],[0,1,2,3,4,5,6,7,8,9,11],[0,1,2,3,4,5,6,7,8,9,10,11,12]]) [2,7,8,9,10,11,12,13] (by kernel_rfl) (fun l_ a_ W_ h => ?_) (fun l_ a_ W_ h => ?_) (fun l_ a_ W_ h hall => ?_) ?_ _ _ _ _ (by decide) ?_
            · obtain ⟨fb2,fb7,fb8,fb9,fb10,fb11,fb12,fb13,x96,x101,x93,x102,x103,x16,x17,E_fn,E_nb,rfl,rfl,S_,_,mf2_7,mf7_8,mf8_9,mf8_10,mf9_12,mf11_12,mf10_13,mf12_13,cf7,cf8,cf9,cf10,cf13,d_fn,d_fn0,d_nb,d_nb0,d_nb1⟩ := (hI.out _ _ _).1 h
              exact S_.out.pick [5] (by decide)
            · obtain ⟨fb2,fb7,fb8,fb9,fb10,fb11,fb12,fb13,x96,x101,x93,x102,x103,x16,x17,E_fn,E_nb,rfl,rfl,S_,_,mf2_7,mf7_8,mf8_9,mf8_10,mf9_12,mf11_12,mf10_13,mf12_13,cf7,cf8,cf9,cf10,cf13,d_fn,d_fn0,d_nb,d_nb0,d_nb1⟩ := (hI.out _ _ _).1 h
              rfl
            · obtain ⟨fb2,fb7,fb8,fb9,fb10,fb11,fb12,fb13,x96,x101,x93,x102,x103,x16,x17,E_fn,E_nb,rfl,rfl,S_,_,mf2_7,mf7_8,mf8_9,mf8_10,mf9_12,mf11_12,mf10_13,mf12_13,cf7,cf8,cf9,cf10,cf13,d_fn,d_fn0,d_nb,d_nb0,d_nb1⟩ := (hI.out _ _ _).1 h
              obtain rfl : fb2 = true := hall 2 (by decide)
              obtain rfl : fb7 = true := hall 7 (by decide)
              obtain rfl : fb8 = true := hall 8 (by decide)
              obtain rfl : fb9 = true := hall 9 (by decide)
              obtain rfl : fb10 = true := hall 10 (by decide)
              obtain rfl : fb11 = true := hall 11 (by decide)
              obtain rfl : fb12 = true := hall 12 (by decide)
              obtain rfl : fb13 = true := hall 13 (by decide)
              clear hall h hI INV
              rw [HF.out]
              clear HF F
              obtain rfl := cf7.out rfl
              obtain rfl := cf8.out rfl
              obtain rfl := cf9.out rfl
              obtain rfl := cf10.out rfl
              obtain rfl := cf13.out rfl
              have v_fn := d_fn0.out rfl
              have v_nb := d_nb1.out rfl
              clear mf2_7 mf7_8 mf8_9 mf8_10 mf9_12 mf11_12 mf10_13 mf12_13 cf7 cf8 cf9 cf10 cf13 d_fn d_fn0 d_nb d_nb0 d_nb1
              obtain ⟨g,rfl,rfl⟩ := v_nb
              have S9 := S_
              go_wp2_with fail
              go_meet
              exact ⟨g,rfl,rfl,S9.out.pick [1,2,3,4,5,6,7,8,9] (by decide)⟩
            · clear hHeld S1
              refine StepsI.cons rfl (fun l_ a_ W_ h hf hd K hK => ?_) (StepsI.cons rfl (fun l_ a_ W_ h hf hd K hK => ?_) (StepsI.cons rfl (fun l_ a_ W_ h hf hd K hK => ?_) (StepsI.cons rfl (fun l_ a_ W_ h hf hd K hK => ?_) (StepsI.cons rfl (fun l_ a_ W_ h hf hd K hK => ?_) (StepsI.cons rfl (fun l_ a_ W_ h hf hd K hK => ?_) (StepsI.cons rfl (fun l_ a_ W_ h hf hd K hK => ?_) (StepsI.cons rfl (fun l_ a_ W_ h hf hd K hK => ?_) (StepsI.nil))))))))
              · obtain ⟨fb2,fb7,fb8,fb9,fb10,fb11,fb12,fb13,x96,x101,x93,x102,x103,x16,x17,E_fn,E_nb,rfl,rfl,S_,_,mf2_7,mf7_8,mf8_9,mf8_10,mf9_12,mf11_12,mf10_13,mf12_13,cf7,cf8,cf9,cf10,cf13,d_fn,d_fn0,d_nb,d_nb0,d_nb1⟩ := (hI.out _ _ _).1 h
                obtain rfl : fb2 = false := hf
                clear h
                obtain rfl : fb7 = false := by cases fb7 with | false => rfl | true => exact nomatch (mf2_7.out rfl)
                obtain rfl : fb8 = false := by cases fb8 with | false => rfl | true => exact nomatch (mf7_8.out rfl)
                obtain rfl : fb9 = false := by cases fb9 with | false => rfl | true => exact nomatch (mf8_9.out rfl)
                obtain rfl : fb10 = false := by cases fb10 with | false => rfl | true => exact nomatch (mf8_10.out rfl)
                obtain rfl : fb12 = false := by cases fb12 with | false => rfl | true => exact nomatch (mf9_12.out rfl)
                obtain rfl : fb13 = false := by cases fb13 with | false => rfl | true => exact nomatch (mf10_13.out rfl)
                clear hd
                rw [HF.out]
                have v_fn := d_fn.out rfl
                obtain rfl := v_fn
                go_simp
                refine (effect_c m q e W_ HM.out (HQ.out.below S_.out.below) HMEM.out).mono ?_
                rintro e_ W2 ⟨fv,rfl,T⟩
                have S2 := Lib.hid (S_.out.fill1 0 rfl T.out)
                clear T
                try simp only [sx]
                refine hK.out _ _ ((hI.out _ _ _).2 ⟨true,false,false,false,false,fb11,false,false,_,_,_,_,_,_,_,_,_,rfl,(HF.out _ _ _ _ _ _ _).symm,S2,trivial,(fun _ => rfl),(fun h => nomatch h),(fun h => nomatch h),(fun h => nomatch h),(fun h => nomatch h),(fun h => nomatch h),(fun h => nomatch h),(fun h => nomatch h),(fun h => nomatch h),(fun h => nomatch h),(fun h => nomatch h),(fun h => nomatch h),(fun h => nomatch h),(fun h => nomatch h),(fun _ => rfl),d_nb,d_nb0,(fun h => nomatch h)⟩)
              · obtain ⟨fb2,fb7,fb8,fb9,fb10,fb11,fb12,fb13,x96,x101,x93,x102,x103,x16,x17,E_fn,E_nb,rfl,rfl,S_,_,mf2_7,mf7_8,mf8_9,mf8_10,mf9_12,mf11_12,mf10_13,mf12_13,cf7,cf8,cf9,cf10,cf13,d_fn,d_fn0,d_nb,d_nb0,d_nb1⟩ := (hI.out _ _ _).1 h
                obtain rfl : fb7 = false := hf
                clear h
                obtain rfl : fb2 = true := hd 2 (by decide)
                obtain rfl : fb8 = false := by cases fb8 with | false => rfl | true => exact nomatch (mf7_8.out rfl)
                obtain rfl : fb9 = false := by cases fb9 with | false => rfl | true => exact nomatch (mf8_9.out rfl)
                obtain rfl : fb10 = false := by cases fb10 with | false => rfl | true => exact nomatch (mf8_10.out rfl)
                obtain rfl : fb12 = false := by cases fb12 with | false => rfl | true => exact nomatch (mf9_12.out rfl)
                obtain rfl : fb13 = false := by cases fb13 with | false => rfl | true => exact nomatch (mf10_13.out rfl)
                clear hd
                rw [HF.out]
                have v_fn := d_fn0.out rfl
                obtain rfl := v_fn
                obtain ⟨F,pre,post,hfv,ec,HCA⟩ := EffOk.call (S_.out.get 0 rfl) HM.out (HQ.out.below S_.out.below) v HVI.out
                rw [HEF.out] at HCA
                subst hfv
                go_simp
                refine HCA.mono ?_
                rintro e_ W2 ⟨rfl,hb⟩
                have S2 := Lib.hid (S_.out.next hb)
                clear hb HCA
                try simp only [sx]
                refine hK.out _ _ ((hI.out _ _ _).2 ⟨true,true,false,false,false,fb11,false,false,_,_,_,_,_,_,_,_,_,rfl,(HF.out _ _ _ _ _ _ _).symm,S2,trivial,(fun _ => rfl),(fun _ => rfl),(fun h => nomatch h),(fun h => nomatch h),(fun h => nomatch h),(fun h => nomatch h),(fun h => nomatch h),(fun h => nomatch h),(fun _ => rfl),(fun h => nomatch h),(fun h => nomatch h),(fun h => nomatch h),(fun h => nomatch h),(fun h => nomatch h),d_fn0,d_nb,d_nb0,(fun h => nomatch h)⟩)
              · obtain ⟨fb2,fb7,fb8,fb9,fb10,fb11,fb12,fb13,x96,x101,x93,x102,x103,x16,x17,E_fn,E_nb,rfl,rfl,S_,_,mf2_7,mf7_8,mf8_9,mf8_10,mf9_12,mf11_12,mf10_13,mf12_13,cf7,cf8,cf9,cf10,cf13,d_fn,d_fn0,d_nb,d_nb0,d_nb1⟩ := (hI.out _ _ _).1 h
                obtain rfl : fb8 = false := hf
                clear h
                obtain rfl : fb7 = true := hd 7 (by decide)
                obtain rfl : fb2 = true := mf2_7.out rfl
                obtain rfl : fb9 = false := by cases fb9 with | false => rfl | true => exact nomatch (mf8_9.out rfl)
                obtain rfl : fb10 = false := by cases fb10 with | false => rfl | true => exact nomatch (mf8_10.out rfl)
                obtain rfl : fb12 = false := by cases fb12 with | false => rfl | true => exact nomatch (mf9_12.out rfl)
                obtain rfl : fb13 = false := by cases fb13 with | false => rfl | true => exact nomatch (mf10_13.out rfl)
                clear hd
                rw [HF.out]
                obtain rfl := cf7.out rfl
                have v_fn := d_fn0.out rfl
                go_simp
                try simp only [sx]
                refine hK.out _ _ ((hI.out _ _ _).2 ⟨true,true,true,false,false,fb11,false,false,_,_,_,_,_,_,_,_,_,rfl,(HF.out _ _ _ _ _ _ _).symm,S_,trivial,(fun _ => rfl),(fun _ => rfl),(fun _ => rfl),(fun _ => rfl),(fun h => nomatch h),(fun h => nomatch h),(fun h => nomatch h),(fun h => nomatch h),cf7,(fun _ => rfl),(fun h => nomatch h),(fun h => nomatch h),(fun h => nomatch h),(fun h => nomatch h),d_fn0,d_nb,d_nb0,(fun h => nomatch h)⟩)
              · obtain ⟨fb2,fb7,fb8,fb9,fb10,fb11,fb12,fb13,x96,x101,x93,x102,x103,x16,x17,E_fn,E_nb,rfl,rfl,S_,_,mf2_7,mf7_8,mf8_9,mf8_10,mf9_12,mf11_12,mf10_13,mf12_13,cf7,cf8,cf9,cf10,cf13,d_fn,d_fn0,d_nb,d_nb0,d_nb1⟩ := (hI.out _ _ _).1 h
                obtain rfl : fb9 = false := hf
                clear h
                obtain rfl : fb8 = true := hd 8 (by decide)
                obtain rfl : fb7 = true := mf7_8.out rfl
                obtain rfl : fb2 = true := mf2_7.out rfl
                obtain rfl : fb12 = false := by cases fb12 with | false => rfl | true => exact nomatch (mf9_12.out rfl)
                obtain rfl : fb13 = false := by cases fb13 with | false => rfl | true => exact nomatch (mf12_13.out rfl)
                clear hd
                rw [HF.out]
                obtain rfl := cf7.out rfl
                obtain rfl := cf8.out rfl
                have v_fn := d_fn0.out rfl
                go_simp
                try simp only [sx]
                refine hK.out _ _ ((hI.out _ _ _).2 ⟨true,true,true,true,fb10,fb11,false,false,_,_,_,_,_,_,_,_,_,rfl,(HF.out _ _ _ _ _ _ _).symm,S_,trivial,(fun _ => rfl),(fun _ => rfl),(fun _ => rfl),(fun _ => rfl),(fun _ => rfl),(fun h => nomatch h),(fun h => nomatch h),(fun h => nomatch h),cf7,cf8,(fun _ => rfl),cf10,(fun h => nomatch h),(fun h => nomatch h),d_fn0,d_nb,d_nb0,(fun h => nomatch h)⟩)
              · obtain ⟨fb2,fb7,fb8,fb9,fb10,fb11,fb12,fb13,x96,x101,x93,x102,x103,x16,x17,E_fn,E_nb,rfl,rfl,S_,_,mf2_7,mf7_8,mf8_9,mf8_10,mf9_12,mf11_12,mf10_13,mf12_13,cf7,cf8,cf9,cf10,cf13,d_fn,d_fn0,d_nb,d_nb0,d_nb1⟩ := (hI.out _ _ _).1 h
                obtain rfl : fb10 = false := hf
                clear h
                obtain rfl : fb8 = true := hd 8 (by decide)
                obtain rfl : fb7 = true := mf7_8.out rfl
                obtain rfl : fb2 = true := mf2_7.out rfl
                obtain rfl : fb13 = false := by cases fb13 with | false => rfl | true => exact nomatch (mf10_13.out rfl)
                clear hd
                rw [HF.out]
                obtain rfl := cf7.out rfl
                obtain rfl := cf8.out rfl
                have v_fn := d_fn0.out rfl
                go_simp
                try simp only [sx]
                refine hK.out _ _ ((hI.out _ _ _).2 ⟨true,true,true,fb9,true,fb11,fb12,false,_,_,_,_,_,_,_,_,_,rfl,(HF.out _ _ _ _ _ _ _).symm,S_,trivial,(fun _ => rfl),(fun _ => rfl),(fun _ => rfl),(fun _ => rfl),mf9_12,mf11_12,(fun _ => rfl),(fun h => nomatch h),cf7,cf8,cf9,(fun _ => rfl),(fun h => nomatch h),(fun h => nomatch h),d_fn0,d_nb,d_nb0,d_nb1⟩)
              · obtain ⟨fb2,fb7,fb8,fb9,fb10,fb11,fb12,fb13,x96,x101,x93,x102,x103,x16,x17,E_fn,E_nb,rfl,rfl,S_,_,mf2_7,mf7_8,mf8_9,mf8_10,mf9_12,mf11_12,mf10_13,mf12_13,cf7,cf8,cf9,cf10,cf13,d_fn,d_fn0,d_nb,d_nb0,d_nb1⟩ := (hI.out _ _ _).1 h
                obtain rfl : fb11 = false := hf
                clear h
                obtain rfl : fb12 = false := by cases fb12 with | false => rfl | true => exact nomatch (mf11_12.out rfl)
                obtain rfl : fb13 = false := by cases fb13 with | false => rfl | true => exact nomatch (mf12_13.out rfl)
                clear hd
                rw [HF.out]
                have v_nb := d_nb.out rfl
                obtain rfl := v_nb
                go_simp
                obtain ⟨g2,hg2⟩ : ∃ g,g = W_.heap.size := ⟨_,rfl⟩
                obtain ⟨W2,hW2⟩ : ∃ v,v = W_.alloc (.cells (ckC (0,[])).toArray 91) := ⟨_,rfl⟩
                have S2 := Lib.hid (S_.out.fillAlloc 1 rfl 91 (ckC (0,[])) (o := .cells (ckC (0,[])).toArray 91) rfl hg2)
                rw [← hg2]
                change K _ (W_.alloc (.cells (ckC (0,[])).toArray 91))
                rw [← hW2]
                rw [← hW2] at S2
                clear hW2 hg2
                try simp only [sx]
                refine hK.out _ _ ((hI.out _ _ _).2 ⟨fb2,fb7,fb8,fb9,fb10,true,false,false,_,_,_,_,_,_,_,_,_,rfl,(HF.out _ _ _ _ _ _ _).symm,S2,trivial,mf2_7,mf7_8,mf8_9,mf8_10,(fun h => nomatch h),(fun _ => rfl),(fun h => nomatch h),(fun h => nomatch h),cf7,cf8,cf9,cf10,(fun h => nomatch h),d_fn,d_fn0,(fun h => nomatch h),(fun _ _ => ⟨_,rfl,rfl⟩),(fun h => nomatch h)⟩)
              · obtain ⟨fb2,fb7,fb8,fb9,fb10,fb11,fb12,fb13,x96,x101,x93,x102,x103,x16,x17,E_fn,E_nb,rfl,rfl,S_,_,mf2_7,mf7_8,mf8_9,mf8_10,mf9_12,mf11_12,mf10_13,mf12_13,cf7,cf8,cf9,cf10,cf13,d_fn,d_fn0,d_nb,d_nb0,d_nb1⟩ := (hI.out _ _ _).1 h
                obtain rfl : fb12 = false := hf
                clear h
                obtain rfl : fb2 = true := hd 2 (by decide)
                obtain rfl : fb7 = true := hd 7 (by decide)
                obtain rfl : fb8 = true := hd 8 (by decide)
                obtain rfl : fb9 = true := hd 9 (by decide)
                obtain rfl : fb11 = true := hd 11 (by decide)
                obtain rfl : fb13 = false := by cases fb13 with | false => rfl | true => exact nomatch (mf12_13.out rfl)
                clear hd
                rw [HF.out]
                obtain rfl := cf7.out rfl
                obtain rfl := cf8.out rfl
                obtain rfl := cf9.out rfl
                have v_fn := d_fn0.out rfl
                have v_nb := d_nb0.out rfl rfl
                obtain ⟨g,rfl,rfl⟩ := v_nb
                refine step_ckAt d HD32.out rfl (.tmp 16) (.tmp 102) rfl S_.out 1 g (0,[]) (by simp) rfl rfl rfl ?_
                intro W2 S2'
                have S2 := Lib.hid S2'
                clear S2'
                try simp only [sx]
                refine hK.out _ _ ((hI.out _ _ _).2 ⟨true,true,true,true,fb10,true,true,false,_,_,_,_,_,_,_,_,_,rfl,(HF.out _ _ _ _ _ _ _).symm,S2,trivial,(fun _ => rfl),(fun _ => rfl),(fun _ => rfl),(fun _ => rfl),(fun _ => rfl),(fun _ => rfl),(fun h => nomatch h),(fun _ => rfl),cf7,cf8,cf9,cf10,(fun h => nomatch h),(fun h => nomatch h),d_fn0,(fun h => nomatch h),(fun _ h => nomatch h),(fun _ => ⟨_,rfl,rfl⟩)⟩)
              · obtain ⟨fb2,fb7,fb8,fb9,fb10,fb11,fb12,fb13,x96,x101,x93,x102,x103,x16,x17,E_fn,E_nb,rfl,rfl,S_,_,mf2_7,mf7_8,mf8_9,mf8_10,mf9_12,mf11_12,mf10_13,mf12_13,cf7,cf8,cf9,cf10,cf13,d_fn,d_fn0,d_nb,d_nb0,d_nb1⟩ := (hI.out _ _ _).1 h
                obtain rfl : fb13 = false := hf
                clear h
                obtain rfl : fb2 = true := hd 2 (by decide)
                obtain rfl : fb7 = true := hd 7 (by decide)
                obtain rfl : fb8 = true := hd 8 (by decide)
                obtain rfl : fb9 = true := hd 9 (by decide)
                obtain rfl : fb10 = true := hd 10 (by decide)
                obtain rfl : fb11 = true := hd 11 (by decide)
                obtain rfl : fb12 = true := hd 12 (by decide)
                clear hd
                rw [HF.out]
                obtain rfl := cf7.out rfl
                obtain rfl := cf8.out rfl
                obtain rfl := cf9.out rfl
                obtain rfl := cf10.out rfl
                have v_fn := d_fn0.out rfl
                have v_nb := d_nb1.out rfl
                go_simp
                try simp only [sx]
                refine hK.out _ _ ((hI.out _ _ _).2 ⟨true,true,true,true,true,true,true,true,_,_,_,_,_,_,_,_,_,rfl,(HF.out _ _ _ _ _ _ _).symm,S_,trivial,(fun _ => rfl),(fun _ => rfl),(fun _ => rfl),(fun _ => rfl),(fun _ => rfl),(fun _ => rfl),(fun _ => rfl),(fun _ => rfl),cf7,cf8,cf9,cf10,(fun _ => rfl),(fun h => nomatch h),d_fn0,(fun h => nomatch h),(fun _ h => nomatch h),d_nb1⟩)
            · refine (hI.out _ _ _).2 ⟨false,false,false,false,false,false,false,false,_,_,_,_,_,_,_,eNo,eNo,rfl,(HF.out _ _ _ _ _ _ _).symm,(S1.out.no.no : Sep w.heap.size w [eNo,eNo,eBlk ob 34 [.slice (some ⟨ba,oa,none⟩) m.all.length cA,.int .i64 0,.slice AM' MK'.length cM',.slice AE ed.length cE],eInts MK' (.slice AM' MK'.length cM'),eEds ed (.slice AE ed.length cE),eCks fs (.slice (some ⟨bf,of,none⟩) fs.length cF),eMap (keyC (K := m.ac.length)) veI mp (idxC fs),eBlk gm 4 (mkB N (fun s => decide ((s : Int) ∈ m.a.mr))),eInts m.all (.slice (some ⟨ba,oa,none⟩) m.all.length cA),eBlk rb 34 [.slice none 0 0,.int .i64 0,.slice none 0 0,.slice none 0 0]] w1),trivial,(fun h => nomatch h),(fun h => nomatch h),(fun h => nomatch h),(fun h => nomatch h),(fun h => nomatch h),(fun h => nomatch h),(fun h => nomatch h),(fun h => nomatch h),(fun h => nomatch h),(fun h => nomatch h),(fun h => nomatch h),(fun h => nomatch h),(fun h => nomatch h),(fun _ => rfl),(fun h => nomatch h),(fun _ => rfl),(fun h => nomatch h),(fun h => nomatch h)⟩
           case rest =>
            clear S ce
            obtain ⟨nb,rfl,rfl,S⟩ := hcut
            rcases HR.out with ⟨rfl,hef⟩ | ⟨rfl,hef⟩
            · have HEF2 := Lib.hid hef
              have hdK : d.2.length = m.ac.length := (HVI.out.eff HM.out hef).len
              have hlk := (MapG.look (okC h32) Tryz.underlying134 zeroI (S.out.get 5 rfl) ⟨d,hdK⟩).1
              clear hef
              have S0 := S
              by_cases hin : d ∈ fs
              · have hix : idxC fs (⟨d,hdK⟩ : CkK m.ac.length) = some ((idxK fs d : Nat) : Int) := if_pos hin
                rw [hix] at hlk
                have UIN : Hid (UI m i (j + 1) v fs (ed ++ [⟨i,e,((idxK fs d : Nat) : Int)⟩])) := UIJ.out.old HM.out HE.out HEF2.out hin
                clear hix
                unfold keyC at hlk
                obtain ⟨td,htd⟩ : ∃ td : Int,td = ((idxK fs d : Nat) : Int) := ⟨_,rfl⟩
                rw [← htd] at hlk UIN
                simp only [Option.getD_some,Option.isSome_some,veI] at hlk
                clear htd S0
                have o3 := BlkAt.cell (S.out.get 1 rfl) 3; simp only [List.getElem?_cons_succ,List.getElem?_cons_zero] at o3
                go_wp2_with (first | refine wpList_ckLoad d nb (S.out.get 0 rfl) HD32.out rfl _ rfl rfl ?_ | (at_builtin; refine wpList_pushS rfl _ _ 32 rfl (S.out.alloc 76 [.int .i64 (i : Int),.int .i64 e,.int .i64 td]) 4 rfl Tryz.underlying32 _ 24 edInfo rfl (by decide) rfl (⟨(i : Int),e,td⟩ : Ed) _ rfl rfl (fun k u hk => (BlkAt.cell (BlkAt.new _ _ _) k).trans hk) (edOne _) (by omega) (by decide) ?_))
                intro A3' c3' w8 S11 _
                have S12 : Hid (Sep w.heap.size w [eBlk nb 91 (ckC d),eBlk ob 34 [.slice (some ⟨ba,oa,none⟩) m.all.length cA,.int .i64 0,.slice AM' MK'.length cM',.slice AE ed.length cE],eInts MK' (.slice AM' MK'.length cM'),eEds (ed ++ [(⟨(i : Int),e,td⟩ : Ed)]) (.slice A3' (ed.length + 1) c3'),eCks fs (.slice (some ⟨bf,of,none⟩) fs.length cF),eMap (keyC (K := m.ac.length)) veI mp (idxC fs),eBlk gm 4 (mkB N (fun s => decide ((s : Int) ∈ m.a.mr))),eInts m.all (.slice (some ⟨ba,oa,none⟩) m.all.length cA),eBlk rb 34 [.slice none 0 0,.int .i64 0,.slice none 0 0,.slice none 0 0]] w8) := S11.drop1
                clear S11 o3
                have o3 := BlkAt.cell (S12.out.get 1 rfl) 3; simp only [List.getElem?_cons_succ,List.getElem?_cons_zero] at o3
                have o3f := BlkAt.free (S12.out.get 1 rfl) 3
                have S13 : Hid (Sep w.heap.size w [eBlk nb 91 (ckC d),eBlk ob 34 [.slice (some ⟨ba,oa,none⟩) m.all.length cA,.int .i64 0,.slice AM' MK'.length cM',.slice A3' (ed ++ [(⟨(i : Int),e,td⟩ : Ed)]).length c3'],eInts MK' (.slice AM' MK'.length cM'),eEds (ed ++ [(⟨(i : Int),e,td⟩ : Ed)]) (.slice A3' (ed ++ [(⟨(i : Int),e,td⟩ : Ed)]).length c3'),eCks fs (.slice (some ⟨bf,of,none⟩) fs.length cF),eMap (keyC (K := m.ac.length)) veI mp (idxC fs),eBlk gm 4 (mkB N (fun s => decide ((s : Int) ∈ m.a.mr))),eInts m.all (.slice (some ⟨ba,oa,none⟩) m.all.length cA),eBlk rb 34 [.slice none 0 0,.int .i64 0,.slice none 0 0,.slice none 0 0]] (w8.setCell ⟨ob,3,none⟩ (.slice A3' (ed.length + 1) c3'))) := by
                 have h := S12.out.set 1 rfl 3 (.slice A3' (ed.length + 1) c3')
                 rw [show (ed ++ [(⟨(i : Int),e,td⟩ : Ed)]).length = ed.length + 1 by simp]
                 exact h
                clear S12
                go_wp2_with fail
                go_roundw
                case rel => exact ⟨j + 1,fs,(ed ++ [(⟨(i : Int),e,td⟩ : Ed)]),(some ⟨bf,of,none⟩),cF,A3',c3',by go_num,by first | rfl | simp,by omega,UIN.out,HMK.out,by first | exact S13.out.drop1 | (have h := S13.out.drop1; rw [show fs.length = fs.length by simp]; exact h)⟩
                case measure => simp [intOf]; omega
              · have hix : idxC fs (⟨d,hdK⟩ : CkK m.ac.length) = none := if_neg hin
                rw [hix] at hlk
                have UIN : Hid (UI m i (j + 1) v (fs ++ [d]) (ed ++ [⟨i,e,(fs.length : Int)⟩])) := UIJ.out.new HM.out HE.out HEF2.out hin
                have hfl2 : fs.length + 1 ≤ 4000 := by have := HF.out _ UIN.out.nd UIN.out.is; rw [List.length_append] at this; exact this
                have HMK2 : Hid (MK' = mkV (mkF m (fs ++ [d])) (i + 1)) := by rw [Hid,mkF_push m fs d (by omega)]; exact HMK.out
                have HPU := Lib.hid (idxC_push (t := (⟨d,hdK⟩ : CkK m.ac.length)) hin)
                unfold keyC at hlk
                simp only [Option.getD_none,Option.isSome_none,veI] at hlk
                have h4 : ((fs.length : Int) == 4096) = false := beq_eq_false_iff_ne.2 (by omega)
                clear hix S0
                go_upto_region 29 with (refine wpList_ckLoad d nb (S.out.get 0 rfl) HD32.out rfl _ rfl rfl ?_)
                go_upto_region 30 with (first | refine wpList_ckLoad d nb (S.out.get 0 rfl) HD32.out rfl _ rfl rfl ?_ | refine wpList_mapUpdateS rfl _ _ _ 134 91 3 rfl S.out 5 rfl (okC h32) Tryz.underlying134 ⟨d,hdK⟩ (fs.length : Int) rfl rfl rfl ?_)
                intro w6 S6 _
                have S7 : Hid (Sep w.heap.size w [eBlk nb 91 (ckC d),eBlk ob 34 [.slice (some ⟨ba,oa,none⟩) m.all.length cA,.int .i64 0,.slice AM' MK'.length cM',.slice AE ed.length cE],eInts MK' (.slice AM' MK'.length cM'),eEds ed (.slice AE ed.length cE),eCks fs (.slice (some ⟨bf,of,none⟩) fs.length cF),eMap (keyC (K := m.ac.length)) veI mp (idxC (fs ++ [d])),eBlk gm 4 (mkB N (fun s => decide ((s : Int) ∈ m.a.mr))),eInts m.all (.slice (some ⟨ba,oa,none⟩) m.all.length cA),eBlk rb 34 [.slice none 0 0,.int .i64 0,.slice none 0 0,.slice none 0 0]] w6) := by
                 rw [HPU.out] at S6
                 exact S6
                clear S6 S hlk
                go_upto_region 30 with fail
                obtain ⟨gx,hgx⟩ : ∃ g,g = w6.heap.size := ⟨_,rfl⟩
                have S8 := S7.out.alloc' 91 (ckC d) (o := .cells (ckC d).toArray 91) rfl hgx
                go_upto_region 31 with (first | refine wpList_ckLoad d nb (S7.out.get 0 rfl) HD32.out rfl _ rfl rfl ?_ | refine wpList_buildCk d HD32.out rfl _ rfl rfl ?_ | (at_builtin; rw [← hgx]; refine wpList_pushS rfl _ _ 103 rfl S8 5 rfl Tryz.underlying103 _ 40 ckInfo (by simp [Value.cells,ckC_len]) (by decide) rfl d gx rfl (encC_len d) (fun k u hk => (BlkAt.cell (S8.get 0 rfl) k).trans (by rw [← encC_eq HD32.out]; exact hk)) (encC_cell d) (by omega) (by decide) ?_))
                intro A2' c2' w7 S9 _
                have S10 : Hid (Sep w.heap.size w [eBlk nb 91 (ckC d),eBlk ob 34 [.slice (some ⟨ba,oa,none⟩) m.all.length cA,.int .i64 0,.slice AM' MK'.length cM',.slice AE ed.length cE],eInts MK' (.slice AM' MK'.length cM'),eEds ed (.slice AE ed.length cE),eCks (fs ++ [d]) (.slice A2' (fs.length + 1) c2'),eMap (keyC (K := m.ac.length)) veI mp (idxC (fs ++ [d])),eBlk gm 4 (mkB N (fun s => decide ((s : Int) ∈ m.a.mr))),eInts m.all (.slice (some ⟨ba,oa,none⟩) m.all.length cA),eBlk rb 34 [.slice none 0 0,.int .i64 0,.slice none 0 0,.slice none 0 0]] w7) := S9.drop1
                clear S9 S8 S7 hgx
                go_upto_region 31 with fail
                have o3 := BlkAt.cell (S10.out.get 1 rfl) 3; simp only [List.getElem?_cons_succ,List.getElem?_cons_zero] at o3
                go_wp2_with (at_builtin; refine wpList_pushS rfl _ _ 32 rfl (S10.out.alloc 76 [.int .i64 (i : Int),.int .i64 e,.int .i64 (fs.length : Int)]) 4 rfl Tryz.underlying32 _ 24 edInfo rfl (by decide) rfl (⟨(i : Int),e,(fs.length : Int)⟩ : Ed) _ rfl rfl (fun k u hk => (BlkAt.cell (BlkAt.new _ _ _) k).trans hk) (edOne _) (by omega) (by decide) ?_)
                intro A3' c3' w8 S11 _
                have S12 : Hid (Sep w.heap.size w [eBlk nb 91 (ckC d),eBlk ob 34 [.slice (some ⟨ba,oa,none⟩) m.all.length cA,.int .i64 0,.slice AM' MK'.length cM',.slice AE ed.length cE],eInts MK' (.slice AM' MK'.length cM'),eEds (ed ++ [(⟨(i : Int),e,(fs.length : Int)⟩ : Ed)]) (.slice A3' (ed.length + 1) c3'),eCks (fs ++ [d]) (.slice A2' (fs.length + 1) c2'),eMap (keyC (K := m.ac.length)) veI mp (idxC (fs ++ [d])),eBlk gm 4 (mkB N (fun s => decide ((s : Int) ∈ m.a.mr))),eInts m.all (.slice (some ⟨ba,oa,none⟩) m.all.length cA),eBlk rb 34 [.slice none 0 0,.int .i64 0,.slice none 0 0,.slice none 0 0]] w8) := S11.drop1
                clear S11 o3
                have o3 := BlkAt.cell (S12.out.get 1 rfl) 3; simp only [List.getElem?_cons_succ,List.getElem?_cons_zero] at o3
                have o3f := BlkAt.free (S12.out.get 1 rfl) 3
                have S13 : Hid (Sep w.heap.size w [eBlk nb 91 (ckC d),eBlk ob 34 [.slice (some ⟨ba,oa,none⟩) m.all.length cA,.int .i64 0,.slice AM' MK'.length cM',.slice A3' (ed ++ [(⟨(i : Int),e,(fs.length : Int)⟩ : Ed)]).length c3'],eInts MK' (.slice AM' MK'.length cM'),eEds (ed ++ [(⟨(i : Int),e,(fs.length : Int)⟩ : Ed)]) (.slice A3' (ed ++ [(⟨(i : Int),e,(fs.length : Int)⟩ : Ed)]).length c3'),eCks (fs ++ [d]) (.slice A2' (fs.length + 1) c2'),eMap (keyC (K := m.ac.length)) veI mp (idxC (fs ++ [d])),eBlk gm 4 (mkB N (fun s => decide ((s : Int) ∈ m.a.mr))),eInts m.all (.slice (some ⟨ba,oa,none⟩) m.all.length cA),eBlk rb 34 [.slice none 0 0,.int .i64 0,.slice none 0 0,.slice none 0 0]] (w8.setCell ⟨ob,3,none⟩ (.slice A3' (ed.length + 1) c3'))) := by
                 have h := S12.out.set 1 rfl 3 (.slice A3' (ed.length + 1) c3')
                 rw [show (ed ++ [(⟨(i : Int),e,(fs.length : Int)⟩ : Ed)]).length = ed.length + 1 by simp]
                 exact h
                clear S12
                go_wp2_with fail
                go_roundw
                case rel => exact ⟨j + 1,(fs ++ [d]),(ed ++ [(⟨(i : Int),e,(fs.length : Int)⟩ : Ed)]),A2',c2',A3',c3',by go_num,by first | rfl | simp,by omega,UIN.out,HMK2.out,by first | exact S13.out.drop1 | (have h := S13.out.drop1; rw [show (fs ++ [d]).length = (fs.length + 1) by simp]; exact h)⟩
                case measure => simp [intOf]; omega
            · have UIN : Hid (UI m i (j + 1) v fs ed) := UIJ.out.none_ HE.out hef
              clear hef
              go_wp2_with fail
              go_roundw
              case rel => exact ⟨j + 1,fs,ed,some ⟨bf,of,none⟩,cF,AE,cE,by go_num,rfl,by omega,UIN.out,HMK.out,S.out.drop1⟩
              case measure => simp [intOf]; omega
         · obtain rfl : j = m.all.length := by omega
           have UO1 : Hid (UO m (i + 1) fs ed) := UIJ.out.fin HM.out
           have hil := UO1.out.il
           clear UIJ
           go_wp2_with fail
           go_roundw
           case rel => exact ⟨i + 1,fs,ed,MK',AF,cF,AM',cM',AE,cE,by go_num,rfl,UO1.out,HMK.out,S.out⟩
           case measure => simp [intOf]; omega
     · obtain rfl : i = fs.length := by omega
       have UFD : Hid (Ufd m fs ed) := UH.out
       clear UH
       have o1 := BlkAt.cell (S.out.get 0 rfl) 1; simp only [List.getElem?_cons_succ,List.getElem?_cons_zero] at o1
       have o1f := BlkAt.free (S.out.get 0 rfl) 1
       have S2 : Hid (Sep w.heap.size w [eBlk ob 34 [.slice AA m.all.length cA,.int .i64 (fs.length : Int),.slice AM MK.length cM,.slice AE ed.length cE],eInts MK (.slice AM MK.length cM),eEds ed (.slice AE ed.length cE),eCks fs (.slice AF fs.length cF),eMap (keyC (K := m.ac.length)) veI mp (idxC fs),eBlk gm 4 (mkB N (fun s => decide ((s : Int) ∈ m.a.mr))),eInts m.all (.slice AA m.all.length cA),eBlk rb 34 [.slice none 0 0,.int .i64 0,.slice none 0 0,.slice none 0 0]] (wr.setCell ⟨ob,1,none⟩ (.int .i64 (fs.length : Int)))) := S.out.set 0 rfl 1 (.int .i64 (fs.length : Int))
       clear S
       go_upto_region 34 with fail
       refine wp_world (fun V => Hid (Sep w.heap.size w [eBlk ob 34 [.slice AA m.all.length cA,.int .i64 (fs.length : Int),.slice AM MK.length cM,.slice AE ed.length cE],eInts MK (.slice AM MK.length cM),eEds ed (.slice AE ed.length cE),eCks fs (.slice AF fs.length cF),eMap (keyC (K := m.ac.length)) veI mp (idxC fs),eBlk gm 4 (mkB N (fun s => decide ((s : Int) ∈ m.a.mr))),eInts m.all (.slice AA m.all.length cA),eBlk rb 34 [.slice none 0 0,.int .i64 0,.slice none 0 0,.slice none 0 0]] V)) S2 fun W9 S3 => ?_
       clear S2 o1 o1f
       have o0 := BlkAt.cell (S3.out.get 0 rfl) 0; have o1 := BlkAt.cell (S3.out.get 0 rfl) 1; have o2 := BlkAt.cell (S3.out.get 0 rfl) 2; have o3 := BlkAt.cell (S3.out.get 0 rfl) 3; simp only [List.getElem?_cons_succ,List.getElem?_cons_zero] at o0 o1 o2 o3
       have r0 := BlkAt.cell (S3.out.get 7 rfl) 0; have r1 := BlkAt.cell (S3.out.get 7 rfl) 1; have r2 := BlkAt.cell (S3.out.get 7 rfl) 2; have r3 := BlkAt.cell (S3.out.get 7 rfl) 3; simp only [List.getElem?_cons_succ,List.getElem?_cons_zero] at r0 r1 r2 r3
       have f0 := BlkAt.free (S3.out.get 7 rfl) 0
       have f1 := BlkAt.free (S3.out.get 7 rfl) 1
       have f2 := BlkAt.free (S3.out.get 7 rfl) 2
       have f3 := BlkAt.free (S3.out.get 7 rfl) 3
       have S4 : Hid (Sep w.heap.size w [eBlk ob 34 [.slice AA m.all.length cA,.int .i64 (fs.length : Int),.slice AM MK.length cM,.slice AE ed.length cE],eInts MK (.slice AM MK.length cM),eEds ed (.slice AE ed.length cE),eCks fs (.slice AF fs.length cF),eMap (keyC (K := m.ac.length)) veI mp (idxC fs),eBlk gm 4 (mkB N (fun s => decide ((s : Int) ∈ m.a.mr))),eInts m.all (.slice AA m.all.length cA),eBlk rb 34 [.slice AA m.all.length cA,.int .i64 (fs.length : Int),.slice AM MK.length cM,.slice AE ed.length cE]] ((((W9.setCell ⟨rb,0,none⟩ (.slice AA m.all.length cA)).setCell ⟨rb,1,none⟩ (.int .i64 (fs.length : Int))).setCell ⟨rb,2,none⟩ (.slice AM MK.length cM)).setCell ⟨rb,3,none⟩ (.slice AE ed.length cE))) := (((S3.out.set 7 rfl 0 (.slice AA m.all.length cA)).set 7 rfl 1 (.int .i64 (fs.length : Int))).set 7 rfl 2 (.slice AM MK.length cM)).set 7 rfl 3 (.slice AE ed.length cE)
       have q0 := BlkAt.cell (S4.out.get 7 rfl) 0; have q1 := BlkAt.cell (S4.out.get 7 rfl) 1; have q2 := BlkAt.cell (S4.out.get 7 rfl) 2; have q3 := BlkAt.cell (S4.out.get 7 rfl) 3; simp only [List.getElem?_cons_succ,List.getElem?_cons_zero] at q0 q1 q2 q3
       clear S3
       go_wp2_with fail
       refine bodyPost_ret (v := .tuple #[.agg #[.slice AA m.all.length cA,.int .i64 (fs.length : Int),.slice AM MK.length cM,.slice AE ed.length cE],.slice AF fs.length cF,.int .i64 0]) (by simp [results,Tryz.results44,go_sem, *]) rfl ?_
       have S5 := S4.out.pick [6,1,2,3] (by decide)
       obtain rfl := HMK.out
       exact ⟨fs,ed,⟨AA,cA,AM,cM,AE,cE⟩,AF,cF,rfl,S5,UFD.out,hfl⟩
end Go.Proofs.YtimdepdbcdbikaaGreat
