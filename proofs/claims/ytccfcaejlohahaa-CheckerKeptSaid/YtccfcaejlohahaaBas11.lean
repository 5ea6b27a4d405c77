/-
  synthesis.result: removes states until nothing changes, and tells it (printed by gen_Vj.py).
  synthesis.Check and Synthesize of right problems (printed by gen_Vk.py).
  The checker's twin: plants, keys of pairs, and where moves lead.
-/
import Derived.Test.YtccfcaejlohahaaBas09
import Derived.Test.YtccfcaejlohahaaBas10
import Derived.Test.YtccfcaejlohahaaBas01
import Derived.Deep.RegionHeld3
import Derived.BigRegion
set_option linter.unusedSimpArgs false
set_option linter.unusedVariables false
namespace Go.Proofs.Ytccfcaejlohahaa
open Go.RowKit
set_option maxRecDepth 100000
theorem DstOk.reach {n : Nat} {mr : List Int} {ed : List Ed} {left : Nat → Bool} {d d' : Nat → Int} (h : DstOk n mr ed left d) (h' : DstOk n mr ed left d') (hr : ∀ x,x ∈ ed → (0 ≤ x.src ∧ x.src < (n : Int)) ∧ 0 ≤ x.dst ∧ x.dst < (n : Int)) : ∀ m i : Nat,(d i).toNat ≤ m → i < n → 0 ≤ d i → 0 ≤ d' i := by
 intro m
 induction m with
 | zero =>
   intro i hm hi h0
   have e : d i = 0 := by omega
   have := h'.m i hi (h.lf i hi h0) (h.z i hi e)
   omega
 | succ m ih =>
   intro i hm hi h0
   by_cases e : d i = 0
   · have := h'.m i hi (h.lf i hi h0) (h.z i hi e)
     omega
   · obtain ⟨x,h1,h2,h3,h4⟩ := h.s i hi (by omega)
     have hx := hr x h1
     have h5 := ih x.dst.toNat (by omega) (by omega) h3
     have h6 := h'.c x h1 (by rw [h2,Int.toNat_natCast]; exact h.lf i hi h0) h5
     rw [h2,Int.toNat_natCast] at h6
     exact h6
theorem blk_none {n : Nat} {mr : List Int} {ed : List Ed} {left : Nat → Bool} {d d' : Nat → Int} {rank rank' : Int} (h : DstOk n mr ed left d) (h' : DstOk n mr ed left d') (hr : ∀ x,x ∈ ed → (0 ≤ x.src ∧ x.src < (n : Int)) ∧ 0 ≤ x.dst ∧ x.dst < (n : Int)) (hb : blkV left d rank n = []) : blkV left d' rank' n = [] := by
 unfold blkV at hb ⊢
 rw [List.map_eq_nil_iff,List.filter_eq_nil_iff] at hb ⊢
 intro i hi g
 refine hb i hi ?_
 simp only [Bool.and_eq_true,decide_eq_true_eq] at g ⊢
 refine ⟨g.1,?_⟩
 by_cases e : d i < 0
 · exact e
 · have := h.reach h' hr _ i (Nat.le_refl _) (List.mem_range.1 hi) (by omega)
   omega
def midF (left : Nat → Bool) (l : List Rm) (k : Nat) (t : Nat) : Bool := left t && !decide ((t : Int) ∈ (l.take k).map Rm.st)
theorem midF_0 (left : Nat → Bool) (l : List Rm) : midF left l 0 = left := by funext t; simp [midF]
theorem midF_set {left : Nat → Bool} {l : List Rm} {k s : Nat} {x : Rm} (hx : l[k]? = some x) (hs : x.st = (s : Int)) (N : Nat) : (mkB N fun t => !decide (t = s) && midF left l k t) = mkB N (midF left l (k + 1)) := mkB_congr fun t _ => by
 unfold midF
 rw [List.take_add_one,hx]
 by_cases g : t = s
 · subst g; simp [hs]
 · have : ¬ (t : Int) = x.st := by omega
   simp [g,this]
theorem RS.nextR {au : Au} {forb unc : List Int} {n : Nat} {rank : Int} {left : Nat → Bool} {R l : List Rm} (h : RS au forb unc n rank left R) (hp : PrRight au forb unc) (hn : au.n = n) (hr1 : 1 ≤ rank) (hN : NextOk au unc left rank l) :
 (∀ q,q ∈ l → 0 ≤ q.st ∧ q.st < (n : Int)) ∧ RS au forb unc n (rank + 1) (midF left l l.length) (R ++ l) := by
 have hfb : ∀ x,x ∈ forb → x.toNat < n := fun x hx => by have := hp.hf.rgV hx; omega
 have hl' : ∀ i,i < n → midF left l l.length i = (left i && !decide ((i : Int) ∈ l.map Rm.st)) := fun i _ => by unfold midF; rw [List.take_length]
 rcases hN with ⟨_,hL⟩ | ⟨_,d,hd,rfl⟩
 · have h1 := h.lost hp.ha hn hL
   exact ⟨fun q hq => (h1 q hq).1,h.step hr1 h1 hL.nd hl' hfb⟩
 · have e : au.n.toNat = n := by rw [hn,Int.toNat_natCast]
   rw [e] at hd hl' ⊢
   have h1 := h.blocked (rank := rank) hp.ha hn hd
   exact ⟨fun q hq => (h1 q hq).1,h.step hr1 h1 (blkV_nd _ _ _ _) hl' hfb⟩
theorem RS.lenR {au : Au} {forb unc : List Int} {n : Nat} {rank : Int} {left : Nat → Bool} {R : List Rm} (h : RS au forb unc n rank left R) : R.length ≤ n := by
 have := nodup_len n (R.map Rm.st) h.nd fun x hx => by
  obtain ⟨q,hq,rfl⟩ := List.mem_map.1 hx
  exact (h.r q hq).1
 rwa [List.length_map] at this
theorem syAt {n0 : Nat} {w0 w : World} {es : List Ent} {a : Au} {p : AuP} {unc : List Int} {AU : Option Addr} {cU : Nat} {q : SyP} {left : Nat → Bool} (S : Sep n0 w0 (eBlk q.pb 126 (sySt a p unc AU cU q) :: eBlk q.lb 4 (mkB a.n.toNat left) :: eMap keyI veV q.mb (bkF a.ed q.vs) :: eRwsG encI 1 3 (predsOf a.ed) q.vs :: es) w) (hv : q.vs.length = a.n.toNat) (hA : Au.At w a p) (hU : IntsAt w AU unc) : SyAt w a p unc AU cU q left :=
 ⟨S.get 0 rfl,S.get 1 rfl,S.get 2 rfl,rows_at (S.get 3 rfl) hv,hA,hU⟩
theorem dstV_yes {left : Nat → Bool} {d : Nat → Int} {k : Nat} (h : left k = true) : dstV left d (k + 1) = dstV left d k ++ [d k] := by simp [dstV,List.range_succ,List.filter_append,h]
theorem dstV_no {left : Nat → Bool} {d : Nat → Int} {k : Nat} (h : left k = false) : dstV left d (k + 1) = dstV left d k := by simp [dstV,List.range_succ,List.filter_append,h]
theorem Own.formB {α : Type} {enc : α → List Value} {k T B : Nat} {l : List α} {A : Option Addr} {c : Nat} {w : World} (h : Own enc k T B l (.slice A l.length c) w) (hl : 0 < l.length) : ∃ g,A = some ⟨g,0,none⟩ := by
 rcases h.2 with ⟨_,h2⟩ | ⟨g,cap,cur,h1,_⟩
 · omega
 · cases h1; exact ⟨g,rfl⟩
theorem Own.cellB {α : Type} {enc : α → List Value} {k T B : Nat} {l : List α} {g c : Nat} {w : World} (h : Own enc k T B l (.slice (some ⟨g,0,none⟩) l.length c) w) {j : Nat} {u : Value} (hj : (l.flatMap enc)[j]? = some u) : w.cell? ⟨g,j,none⟩ = some u := by
 rcases h.2 with ⟨h1,_⟩ | ⟨g',cap,cur,h1,_,h3,_,_,_,h7⟩
 · cases h1
 · cases h1
   have hj' : (cur.toList.take (l.length * k))[j]? = some u := by rw [h7]; exact hj
   have hlt := (List.getElem?_eq_some_iff.1 hj').1
   rw [List.length_take] at hlt
   rw [List.getElem?_take_of_lt (by omega),Array.getElem?_toList] at hj'
   simp only [World.cell?,h3]
   simpa using hj'
def GivesRs (a : Au) (forb unc : List Int) (w : World) (e : Ending) (w' : World) : Prop := ∃ (K D : List Int) (R : List Rm) (cp : CeP) (rk : Int) (s : Au) (ps : AuP) (l : List Int) (AO : Option Addr) (cO : Nat) (left : Nat → Bool),e = .returned (.agg #[.slice cp.AK K.length cp.cK,.slice cp.AD D.length cp.cD,.slice cp.AR R.length cp.cR,.int .i64 rk,.slice ps.A1 s.al.length ps.c1,.int .i64 s.n,.slice ps.A2 s.mr.length ps.c2,.slice ps.A3 s.ed.length ps.c3,.slice AO l.length cO]) ∧
 Hid (KeptOk a forb unc K D R) ∧ Hid (K = mkV left a.n.toNat) ∧ Hid (SvOk a left s l) ∧ Hid (Sep w.heap.size w ([eInts K (.slice cp.AK K.length cp.cK),eInts D (.slice cp.AD D.length cp.cD),eRms R (.slice cp.AR R.length cp.cR)] ++ (eAu s ps ++ [eInts l (.slice AO l.length cO)])) w')
set_option maxHeartbeats 8000000 in
theorem result_c (a : Au) (p : AuP) (forb unc : List Int) (AF : Option Addr) (cF : Nat) (AU : Option Addr) (cU : Nat) (w : World) (hp : PrRight a forb unc) (hA : Au.At w a p) (hF : IntsAt w AF forb) (hU : IntsAt w AU unc) (hel : a.n.toNat * a.ed.length ≤ 1000000) (hee : a.ed.length ≤ 1000000) :
 Calls Try.prog 20 #[a.val p,.slice AF forb.length cF,.slice AU unc.length cU,.bool true] w (GivesRs a forb unc w) := by
 have HA := Lib.hid hA
 have HF := Lib.hid hF
 have HU := Lib.hid hU
 have HP := Lib.hid hp
 have n0 := hp.ha.n0
 have n1 := hp.ha.n1
 have HFR : Hid (∀ x,x ∈ forb → 0 ≤ x ∧ x < a.n) := fun x hx => hp.hf.rgV hx
 have HFN : Hid forb.Nodup := List.nodup_iff_pairwise_ne.2 ((rsp hp.hf.incr).imp fun {a b} hab e => by omega)
 have hfl : forb.length ≤ 4096 := by
  have := nodup_len a.n.toNat forb HFN.out fun x hx => by have := HFR.out x hx; omega
  omega
 have hul : unc.length ≤ 32 := rises_len (n := 32) hp.hu.incr fun x hx => hp.hu.rgV hx
 have HNN : Hid (a.n = (a.n.toNat : Int)) := (Int.toNat_of_nonneg n0).symm
 have hn4 : a.n.toNat ≤ 4096 := by omega
 clear hA hF hU hp
 go_enter Try.func20,Try.ntmps20
 obtain ⟨tb,htb⟩ : ∃ g,g = w.heap.size := ⟨_,rfl⟩
 obtain ⟨rb,hrb⟩ : ∃ g,g = w.heap.size + 1 := ⟨_,rfl⟩
 go_upto_region 1 with fail
 try rw [← hrb]
 try rw [← htb]
 refine wp_world (fun W => Sep w.heap.size w [eBlk rb 49 [.slice none 0 0,.slice none 0 0,.slice none 0 0,.int .i64 0,.slice none 0 0,.int .i64 0,.slice none 0 0,.slice none 0 0,.slice none 0 0],eBlk tb 39 [.slice p.A1 a.al.length p.c1,.int .i64 a.n,.slice p.A2 a.mr.length p.c2,.slice p.A3 a.ed.length p.c3]] W) (((Sep.here w).alloc' _ [_,_,_,_] rfl htb).alloc' _ [_,_,_,_,_,_,_,_,_] rfl (by simp; omega)) fun W S => ?_
 have S0 := Lib.hid S
 clear S htb hrb
 have t0 := BlkAt.cell (S0.out.get 1 rfl) 0; have t1 := BlkAt.cell (S0.out.get 1 rfl) 1; have t2 := BlkAt.cell (S0.out.get 1 rfl) 2; have t3 := BlkAt.cell (S0.out.get 1 rfl) 3; simp only [List.getElem?_cons_succ,List.getElem?_cons_zero] at t0 t1 t2 t3
 have CS := Lib.hid (startS_c a p unc forb AF cF AU cU W HP.out.ha (HA.out.below S0.out.below) (HF.out.below IntE.stays S0.out.below) HFR.out (by omega) hee)
 go_wp2_with fail
 refine CS.out.mono ?_
 rintro e w1 ⟨q,rfl,HQ,h⟩
 have S1 := Lib.hid (S0.out.news h.out)
 clear CS h S0 t0 t1 t2 t3
 obtain ⟨cb,hcb⟩ : ∃ g,g = w1.heap.size := ⟨_,rfl⟩
 go_upto_region 3 with fail
 try rw [← hcb]
 refine wp_world (fun V => Hid (Sep w.heap.size w [eBlk q.pb 126 (sySt a p unc AU cU q),eBlk q.lb 4 (mkB a.n.toNat (fun t => !decide ((t : Int) ∈ forb))),eMap keyI veV q.mb (bkF a.ed q.vs),eRwsG encI 1 3 (predsOf a.ed) q.vs,eBlk cb 49 [.slice none 0 0,.slice none 0 0,.slice none 0 0,.int .i64 0,.slice none 0 0,.int .i64 0,.slice none 0 0,.slice none 0 0,.slice none 0 0],eRms [] (.slice none 0 0),eBlk rb 49 [.slice none 0 0,.slice none 0 0,.slice none 0 0,.int .i64 0,.slice none 0 0,.int .i64 0,.slice none 0 0,.slice none 0 0,.slice none 0 0],eBlk tb 39 [.slice p.A1 a.al.length p.c1,.int .i64 a.n,.slice p.A2 a.mr.length p.c2,.slice p.A3 a.ed.length p.c3]] V)) (((S1.out.alloc' _ [_,_,_,_,_,_,_,_,_] rfl hcb).nilOwn Rm.cells 4 70).pick [2,3,4,5,1,0,6,7] (by decide)) fun V S2 => ?_
 clear S1 hcb
 go_wp2_with fail
 go_loopw [25] (fun i wr => ∃ (k : Nat) (R : List Rm) (AR : Option Addr) (cR : Nat) (rk : Int),k ≤ forb.length ∧ i = .int .i64 (k : Int) ∧ Hid (R = (forb.take k).map fun x => (⟨x,1,1,-1⟩ : Rm)) ∧ Hid (Sep w.heap.size w [eBlk q.pb 126 (sySt a p unc AU cU q),eBlk q.lb 4 (mkB a.n.toNat (fun t => !decide ((t : Int) ∈ forb))),eMap keyI veV q.mb (bkF a.ed q.vs),eRwsG encI 1 3 (predsOf a.ed) q.vs,eBlk cb 49 [.slice none 0 0,.slice none 0 0,.slice AR R.length cR,.int .i64 rk,.slice none 0 0,.int .i64 0,.slice none 0 0,.slice none 0 0,.slice none 0 0],eRms R (.slice AR R.length cR),eBlk rb 49 [.slice none 0 0,.slice none 0 0,.slice none 0 0,.int .i64 0,.slice none 0 0,.int .i64 0,.slice none 0 0,.slice none 0 0,.slice none 0 0],eBlk tb 39 [.slice p.A1 a.al.length p.c1,.int .i64 a.n,.slice p.A2 a.mr.length p.c2,.slice p.A3 a.ed.length p.c3]] wr)) (fun i _ => forb.length - (intOf i).toNat)
 case atStart => exact ⟨0,[],none,0,0,by omega,rfl,rfl,S2.out⟩
 case round =>
  clear S2
  obtain ⟨k,R,AR,cR,rk,hk,rfl,HR,S⟩ := hrel
  have hrl : R.length ≤ k := by rw [HR.out,List.length_map]; exact List.length_take_le _ _
  by_cases hlt : k < forb.length
  · obtain ⟨b,off,x,rfl,hb,hx,cx⟩ := IntsAt.at (HF.out.below IntE.stays S.out.below) hlt
    have HRN : Hid (R ++ [(⟨(x : Int),1,1,-1⟩ : Rm)] = (forb.take (k + 1)).map fun x => (⟨x,1,1,-1⟩ : Rm)) := by rw [Hid,List.take_add_one,hx,List.map_append,← HR.out]; rfl
    have o2 := BlkAt.cell (S.out.get 4 rfl) 2; simp only [List.getElem?_cons_succ,List.getElem?_cons_zero] at o2
    clear HR hb hx
    go_wp2_with (at_builtin; refine wpList_pushS rfl _ _ 45 rfl (S.out.alloc 70 [.int .i64 x,.int .i64 1,.int .i64 1,.int .i64 (-1)]) 6 rfl Try.underlying45 _ 32 rmInfoS rfl (by decide) rfl (⟨(x : Int),1,1,-1⟩ : Rm) _ rfl rfl (fun k u hk => (BlkAt.cell (BlkAt.new _ _ _) k).trans hk) (rmOne _) (by omega) (by decide) ?_)
    intro A' c' w6 S9 _
    have S10 : Hid (Sep w.heap.size w [eBlk q.pb 126 (sySt a p unc AU cU q),eBlk q.lb 4 (mkB a.n.toNat (fun t => !decide ((t : Int) ∈ forb))),eMap keyI veV q.mb (bkF a.ed q.vs),eRwsG encI 1 3 (predsOf a.ed) q.vs,eBlk cb 49 [.slice none 0 0,.slice none 0 0,.slice AR R.length cR,.int .i64 rk,.slice none 0 0,.int .i64 0,.slice none 0 0,.slice none 0 0,.slice none 0 0],eRms (R ++ [(⟨(x : Int),1,1,-1⟩ : Rm)]) (.slice A' (R.length + 1) c'),eBlk rb 49 [.slice none 0 0,.slice none 0 0,.slice none 0 0,.int .i64 0,.slice none 0 0,.int .i64 0,.slice none 0 0,.slice none 0 0,.slice none 0 0],eBlk tb 39 [.slice p.A1 a.al.length p.c1,.int .i64 a.n,.slice p.A2 a.mr.length p.c2,.slice p.A3 a.ed.length p.c3]] w6) := S9.drop1
    clear S9 S o2 cx
    have o2 := BlkAt.cell (S10.out.get 4 rfl) 2; simp only [List.getElem?_cons_succ,List.getElem?_cons_zero] at o2
    have o2f := BlkAt.free (S10.out.get 4 rfl) 2
    have o3 := BlkAt.cell (S10.out.get 4 rfl) 3; simp only [List.getElem?_cons_succ,List.getElem?_cons_zero] at o3
    have o3f := BlkAt.free (S10.out.get 4 rfl) 3
    have S11 : Hid (Sep w.heap.size w [eBlk q.pb 126 (sySt a p unc AU cU q),eBlk q.lb 4 (mkB a.n.toNat (fun t => !decide ((t : Int) ∈ forb))),eMap keyI veV q.mb (bkF a.ed q.vs),eRwsG encI 1 3 (predsOf a.ed) q.vs,eBlk cb 49 [.slice none 0 0,.slice none 0 0,.slice A' (R ++ [(⟨(x : Int),1,1,-1⟩ : Rm)]).length c',.int .i64 1,.slice none 0 0,.int .i64 0,.slice none 0 0,.slice none 0 0,.slice none 0 0],eRms (R ++ [(⟨(x : Int),1,1,-1⟩ : Rm)]) (.slice A' (R ++ [(⟨(x : Int),1,1,-1⟩ : Rm)]).length c'),eBlk rb 49 [.slice none 0 0,.slice none 0 0,.slice none 0 0,.int .i64 0,.slice none 0 0,.int .i64 0,.slice none 0 0,.slice none 0 0,.slice none 0 0],eBlk tb 39 [.slice p.A1 a.al.length p.c1,.int .i64 a.n,.slice p.A2 a.mr.length p.c2,.slice p.A3 a.ed.length p.c3]] ((w6.setCell ⟨cb,2,none⟩ (.slice A' (R.length + 1) c')).setCell ⟨cb,3,none⟩ (.int .i64 1))) := by
     have h := (S10.out.set 4 rfl 2 (.slice A' (R.length + 1) c')).set 4 rfl 3 (.int .i64 1)
     rw [show (R ++ [(⟨(x : Int),1,1,-1⟩ : Rm)]).length = R.length + 1 by simp]
     exact h
    clear S10
    go_wp2_with fail
    go_roundw
    case rel => exact ⟨k + 1,_,A',c',1,by omega,by go_num,HRN.out,S11.out⟩
    case measure => simp [intOf]; omega
  · obtain rfl : k = forb.length := by omega
    have HRS : Hid (RS a forb unc a.n.toNat 2 (fun t => !decide ((t : Int) ∈ forb)) R) := by
     rw [Hid,HR.out,List.take_length]
     exact RS.start (fun x hx => by have := HFR.out x hx; have := HNN.out; omega) HFN.out
    clear HR hlt hk hrl
    go_wp2_with fail
    go_loopw [13] (fun vr wr => ∃ (rank : Nat) (left : Nat → Bool) (R : List Rm) (AR : Option Addr) (cR : Nat) (rk : Int),vr = .int .i64 (rank : Int) ∧ 2 ≤ rank ∧ rank ≤ R.length + 2 ∧ Hid (RS a forb unc a.n.toNat rank left R) ∧ Hid (Sep w.heap.size w [eBlk q.pb 126 (sySt a p unc AU cU q),eBlk q.lb 4 (mkB a.n.toNat left),eMap keyI veV q.mb (bkF a.ed q.vs),eRwsG encI 1 3 (predsOf a.ed) q.vs,eBlk cb 49 [.slice none 0 0,.slice none 0 0,.slice AR R.length cR,.int .i64 rk,.slice none 0 0,.int .i64 0,.slice none 0 0,.slice none 0 0,.slice none 0 0],eRms R (.slice AR R.length cR),eBlk rb 49 [.slice none 0 0,.slice none 0 0,.slice none 0 0,.int .i64 0,.slice none 0 0,.int .i64 0,.slice none 0 0,.slice none 0 0,.slice none 0 0],eBlk tb 39 [.slice p.A1 a.al.length p.c1,.int .i64 a.n,.slice p.A2 a.mr.length p.c2,.slice p.A3 a.ed.length p.c3]] wr)) (fun vr _ => a.n.toNat + 4 - (intOf vr).toNat)
    case atStart => exact ⟨2,_,R,AR,cR,rk,rfl,by omega,by omega,HRS.out,S.out⟩
    case round =>
     clear S HRS
     obtain ⟨rank,left,R,AR,cR,rk,rfl,hr2,hrR,HRS,S⟩ := hrel
     have hRl := HRS.out.lenR
     have SY := Lib.hid (syAt S.out HQ.out (HA.out.below S.out.below) (HU.out.below IntE.stays S.out.below))
     have CN := Lib.hid (nextS_c a p unc AU cU q left (rank : Int) wr HP.out.ha SY.out (by omega) hee)
     clear SY
     go_wp2_with fail
     refine CN.out.mono ?_
     rintro e w2 ⟨l,Al,cl,rfl,HNX,h⟩
     have S2 := Lib.hid ((S.out.news h.out).pick [1,2,3,4,5,6,7,8,0] (by decide))
     clear CN h S
     have HNR := Lib.hid (HRS.out.nextR HP.out HNN.out (by omega) HNX.out)
     by_cases hl0 : l = []
     · subst hl0
       have HLD : Hid (LostI unc left (rank : Int) a.ed a.ed.length [] ∧ ∃ d,DstOk a.n.toNat a.mr a.ed left d ∧ blkV left d (rank : Int) a.n.toNat = []) := by
        rcases HNX.out with ⟨g,_⟩ | ⟨h1,d,h2,h3⟩
        · exact absurd rfl g
        · exact ⟨h1,d,h2,h3.symm⟩
       have S3 : Hid (Sep w.heap.size w [eBlk q.pb 126 (sySt a p unc AU cU q),eBlk q.lb 4 (mkB a.n.toNat left),eMap keyI veV q.mb (bkF a.ed q.vs),eRwsG encI 1 3 (predsOf a.ed) q.vs,eBlk cb 49 [.slice none 0 0,.slice none 0 0,.slice AR R.length cR,.int .i64 rk,.slice none 0 0,.int .i64 0,.slice none 0 0,.slice none 0 0,.slice none 0 0],eRms R (.slice AR R.length cR),eBlk rb 49 [.slice none 0 0,.slice none 0 0,.slice none 0 0,.int .i64 0,.slice none 0 0,.int .i64 0,.slice none 0 0,.slice none 0 0,.slice none 0 0],eBlk tb 39 [.slice p.A1 a.al.length p.c1,.int .i64 a.n,.slice p.A2 a.mr.length p.c2,.slice p.A3 a.ed.length p.c3]] w2) := S2.out.pick [0,1,2,3,4,5,6,7] (by decide)
       clear HNR HNX S2
       have o2 := BlkAt.cell (S3.out.get 4 rfl) 2; simp only [List.getElem?_cons_succ,List.getElem?_cons_zero] at o2
       have CSo := Lib.hid (sortF_c AR cR R w2 (S3.out.get 5 rfl) (fun r hr => by have := (HRS.out.r r hr).1; omega) (by omega))
       go_wp2_with fail
       refine CSo.out.mono ?_
       rintro e w3 ⟨rfl,S',hpm,hpw,hown,hoff⟩
       have S4 : Hid (Sep w.heap.size w [eBlk q.pb 126 (sySt a p unc AU cU q),eBlk q.lb 4 (mkB a.n.toNat left),eMap keyI veV q.mb (bkF a.ed q.vs),eRwsG encI 1 3 (predsOf a.ed) q.vs,eBlk cb 49 [.slice none 0 0,.slice none 0 0,.slice AR R.length cR,.int .i64 rk,.slice none 0 0,.int .i64 0,.slice none 0 0,.slice none 0 0,.slice none 0 0],eRms S' (.slice AR R.length cR),eBlk rb 49 [.slice none 0 0,.slice none 0 0,.slice none 0 0,.int .i64 0,.slice none 0 0,.int .i64 0,.slice none 0 0,.slice none 0 0,.slice none 0 0],eBlk tb 39 [.slice p.A1 a.al.length p.c1,.int .i64 a.n,.slice p.A2 a.mr.length p.c2,.slice p.A3 a.ed.length p.c3]] w3) := S3.out.chg 5 rfl (eRms S' (.slice AR R.length cR)) hoff hown (fun g hg => .inl hg)
       have HPM := Lib.hid hpm
       have HPW := Lib.hid hpw
       clear CSo S3 hpm hpw hown hoff o2
       have SY := Lib.hid (syAt S4.out HQ.out (HA.out.below S4.out.below) (HU.out.below IntE.stays S4.out.below))
       have CD := Lib.hid (distS_c a p unc AU cU q left w3 HP.out.ha SY.out)
       clear SY
       go_wp2_with fail
       refine CD.out.mono ?_
       rintro e w4 ⟨g,d,rfl,HD,h⟩
       have S5 : Hid (Sep w.heap.size w [eBlk q.pb 126 (sySt a p unc AU cU q),eBlk q.lb 4 (mkB a.n.toNat left),eMap keyI veV q.mb (bkF a.ed q.vs),eRwsG encI 1 3 (predsOf a.ed) q.vs,eBlk cb 49 [.slice none 0 0,.slice none 0 0,.slice AR R.length cR,.int .i64 rk,.slice none 0 0,.int .i64 0,.slice none 0 0,.slice none 0 0,.slice none 0 0],eRms S' (.slice AR R.length cR),eInts [] (.slice none 0 0),eInts [] (.slice none 0 0),eBlk g 3 (mkI a.n.toNat d),eBlk rb 49 [.slice none 0 0,.slice none 0 0,.slice none 0 0,.int .i64 0,.slice none 0 0,.int .i64 0,.slice none 0 0,.slice none 0 0,.slice none 0 0],eBlk tb 39 [.slice p.A1 a.al.length p.c1,.int .i64 a.n,.slice p.A2 a.mr.length p.c2,.slice p.A3 a.ed.length p.c3]] w4) := (((S4.out.news h.out).nilOwn encI 1 3).nilOwn encI 1 3).pick [3,4,5,6,7,8,1,0,2,9,10] (by decide)
       clear CD h S4
       have hdl : (a.n.toNat : Int) ≤ 4096 := by omega
       go_wp2_with fail
       go_loopw [79] (fun vk wr => ∃ (k : Nat) (K D : List Int) (AK : Option Addr) (cK : Nat) (AD : Option Addr) (cD : Nat),k ≤ a.n.toNat ∧ vk = .int .i64 (k : Int) ∧ Hid (K = mkV left k) ∧ Hid (D = dstV left d k) ∧ Hid (Sep w.heap.size w [eBlk q.pb 126 (sySt a p unc AU cU q),eBlk q.lb 4 (mkB a.n.toNat left),eMap keyI veV q.mb (bkF a.ed q.vs),eRwsG encI 1 3 (predsOf a.ed) q.vs,eBlk cb 49 [.slice AK K.length cK,.slice AD D.length cD,.slice AR R.length cR,.int .i64 rk,.slice none 0 0,.int .i64 0,.slice none 0 0,.slice none 0 0,.slice none 0 0],eRms S' (.slice AR R.length cR),eInts K (.slice AK K.length cK),eInts D (.slice AD D.length cD),eBlk g 3 (mkI a.n.toNat d),eBlk rb 49 [.slice none 0 0,.slice none 0 0,.slice none 0 0,.int .i64 0,.slice none 0 0,.int .i64 0,.slice none 0 0,.slice none 0 0,.slice none 0 0],eBlk tb 39 [.slice p.A1 a.al.length p.c1,.int .i64 a.n,.slice p.A2 a.mr.length p.c2,.slice p.A3 a.ed.length p.c3]] wr)) (fun vk _ => a.n.toNat - (intOf vk).toNat)
       case atStart => exact ⟨0,[],[],none,0,none,0,by omega,rfl,rfl,rfl,S5.out⟩
       case round =>
        clear S5
        obtain ⟨k,K,D,AK,cK,AD,cD,hk,rfl,HK,HDD,S⟩ := hrel
        have hKl : K.length ≤ k := by rw [HK.out]; exact mkV_len left k
        have hDl : D.length = K.length := by rw [HDD.out,HK.out]; exact dstV_len left d k
        by_cases hlt : k < a.n.toNat
        · have gi := (BlkAt.cell (S.out.get 8 rfl) k).trans (mkI_get hlt)
          have p6 := BlkAt.cell (S.out.get 0 rfl) 6; simp only [sySt,List.getElem?_cons_succ,List.getElem?_cons_zero] at p6
          have gc := (BlkAt.cell (S.out.get 1 rfl) k).trans (mkB_get hlt)
          obtain ⟨u,hu⟩ : ∃ u,u = left k := ⟨_,rfl⟩
          rw [← hu] at gc
          have HLK := Lib.hid hu
          obtain ⟨dk,hdk⟩ : ∃ x,x = d k := ⟨_,rfl⟩
          rw [← hdk] at gi
          have HDK := Lib.hid hdk
          clear hu hdk
          cases u
          · have HK2 : Hid (K = mkV left (k + 1)) := by rw [Hid,mkV_no HLK.out.symm]; exact HK.out
            have HD2 : Hid (D = dstV left d (k + 1)) := by rw [Hid,dstV_no HLK.out.symm]; exact HDD.out
            clear HK HDD
            have HDL := Lib.hid hDl
            clear hDl
            go_wp2_with fail
            go_roundw
            case rel => exact ⟨k + 1,K,D,AK,cK,AD,cD,by omega,by go_num,HK2.out,HD2.out,S.out⟩
            case measure => simp [intOf]; omega
          · have HK2 : Hid (K ++ [(k : Int)] = mkV left (k + 1)) := by rw [Hid,mkV_yes HLK.out.symm,← HK.out]
            have HD2 : Hid (D ++ [dk] = dstV left d (k + 1)) := by rw [Hid,dstV_yes HLK.out.symm,← HDD.out,HDK.out]
            have hDl2 : D.length ≤ 4096 := by omega
            clear HK HDD hDl
            have o0 := BlkAt.cell (S.out.get 4 rfl) 0; simp only [List.getElem?_cons_succ,List.getElem?_cons_zero] at o0
            go_wp2_with (at_builtin; refine wpList_pushS rfl _ _ 36 rfl (S.out.alloc 3 [.int .i64 (k : Int)]) 7 rfl Try.underlying36 _ 8 intInfo rfl (by decide) rfl (k : Int) _ rfl rfl (one_cell _ _ [_] _ rfl) (encI_one _) (by omega) (by decide) ?_)
            intro A1' c1' w6 S9 _
            have S10 : Hid (Sep w.heap.size w [eBlk q.pb 126 (sySt a p unc AU cU q),eBlk q.lb 4 (mkB a.n.toNat left),eMap keyI veV q.mb (bkF a.ed q.vs),eRwsG encI 1 3 (predsOf a.ed) q.vs,eBlk cb 49 [.slice AK K.length cK,.slice AD D.length cD,.slice AR R.length cR,.int .i64 rk,.slice none 0 0,.int .i64 0,.slice none 0 0,.slice none 0 0,.slice none 0 0],eRms S' (.slice AR R.length cR),eInts (K ++ [(k : Int)]) (.slice A1' (K.length + 1) c1'),eInts D (.slice AD D.length cD),eBlk g 3 (mkI a.n.toNat d),eBlk rb 49 [.slice none 0 0,.slice none 0 0,.slice none 0 0,.int .i64 0,.slice none 0 0,.int .i64 0,.slice none 0 0,.slice none 0 0,.slice none 0 0],eBlk tb 39 [.slice p.A1 a.al.length p.c1,.int .i64 a.n,.slice p.A2 a.mr.length p.c2,.slice p.A3 a.ed.length p.c3]] w6) := S9.drop1
            clear S9 S o0 gi p6 gc
            have o0 := BlkAt.cell (S10.out.get 4 rfl) 0; simp only [List.getElem?_cons_succ,List.getElem?_cons_zero] at o0
            have o0f := BlkAt.free (S10.out.get 4 rfl) 0
            have S11 : Hid (Sep w.heap.size w [eBlk q.pb 126 (sySt a p unc AU cU q),eBlk q.lb 4 (mkB a.n.toNat left),eMap keyI veV q.mb (bkF a.ed q.vs),eRwsG encI 1 3 (predsOf a.ed) q.vs,eBlk cb 49 [.slice A1' (K ++ [(k : Int)]).length c1',.slice AD D.length cD,.slice AR R.length cR,.int .i64 rk,.slice none 0 0,.int .i64 0,.slice none 0 0,.slice none 0 0,.slice none 0 0],eRms S' (.slice AR R.length cR),eInts (K ++ [(k : Int)]) (.slice A1' (K ++ [(k : Int)]).length c1'),eInts D (.slice AD D.length cD),eBlk g 3 (mkI a.n.toNat d),eBlk rb 49 [.slice none 0 0,.slice none 0 0,.slice none 0 0,.int .i64 0,.slice none 0 0,.int .i64 0,.slice none 0 0,.slice none 0 0,.slice none 0 0],eBlk tb 39 [.slice p.A1 a.al.length p.c1,.int .i64 a.n,.slice p.A2 a.mr.length p.c2,.slice p.A3 a.ed.length p.c3]] (w6.setCell ⟨cb,0,none⟩ (.slice A1' (K.length + 1) c1'))) := by
             have h := S10.out.set 4 rfl 0 (.slice A1' (K.length + 1) c1')
             rw [show (K ++ [(k : Int)]).length = K.length + 1 by simp]
             exact h
            clear S10
            go_upto_region 26 with fail
            refine wp_world (fun V => Hid (Sep w.heap.size w [eBlk q.pb 126 (sySt a p unc AU cU q),eBlk q.lb 4 (mkB a.n.toNat left),eMap keyI veV q.mb (bkF a.ed q.vs),eRwsG encI 1 3 (predsOf a.ed) q.vs,eBlk cb 49 [.slice A1' (K ++ [(k : Int)]).length c1',.slice AD D.length cD,.slice AR R.length cR,.int .i64 rk,.slice none 0 0,.int .i64 0,.slice none 0 0,.slice none 0 0,.slice none 0 0],eRms S' (.slice AR R.length cR),eInts (K ++ [(k : Int)]) (.slice A1' (K ++ [(k : Int)]).length c1'),eInts D (.slice AD D.length cD),eBlk g 3 (mkI a.n.toNat d),eBlk rb 49 [.slice none 0 0,.slice none 0 0,.slice none 0 0,.int .i64 0,.slice none 0 0,.int .i64 0,.slice none 0 0,.slice none 0 0,.slice none 0 0],eBlk tb 39 [.slice p.A1 a.al.length p.c1,.int .i64 a.n,.slice p.A2 a.mr.length p.c2,.slice p.A3 a.ed.length p.c3]] V)) S11 fun V S12 => ?_
            clear S11 o0 o0f
            have o1 := BlkAt.cell (S12.out.get 4 rfl) 1; simp only [List.getElem?_cons_succ,List.getElem?_cons_zero] at o1
            go_wp2_with (at_builtin; refine wpList_pushS rfl _ _ 36 rfl (S12.out.alloc 3 [.int .i64 dk]) 8 rfl Try.underlying36 _ 8 intInfo rfl (by decide) rfl dk _ rfl rfl (one_cell _ _ [_] _ rfl) (encI_one _) (by omega) (by decide) ?_)
            intro A2' c2' w7 S9 _
            have S10 : Hid (Sep w.heap.size w [eBlk q.pb 126 (sySt a p unc AU cU q),eBlk q.lb 4 (mkB a.n.toNat left),eMap keyI veV q.mb (bkF a.ed q.vs),eRwsG encI 1 3 (predsOf a.ed) q.vs,eBlk cb 49 [.slice A1' (K ++ [(k : Int)]).length c1',.slice AD D.length cD,.slice AR R.length cR,.int .i64 rk,.slice none 0 0,.int .i64 0,.slice none 0 0,.slice none 0 0,.slice none 0 0],eRms S' (.slice AR R.length cR),eInts (K ++ [(k : Int)]) (.slice A1' (K ++ [(k : Int)]).length c1'),eInts (D ++ [dk]) (.slice A2' (D.length + 1) c2'),eBlk g 3 (mkI a.n.toNat d),eBlk rb 49 [.slice none 0 0,.slice none 0 0,.slice none 0 0,.int .i64 0,.slice none 0 0,.int .i64 0,.slice none 0 0,.slice none 0 0,.slice none 0 0],eBlk tb 39 [.slice p.A1 a.al.length p.c1,.int .i64 a.n,.slice p.A2 a.mr.length p.c2,.slice p.A3 a.ed.length p.c3]] w7) := by
             have h := S9.drop1
             rw [show (K ++ [(k : Int)]).length = K.length + 1 by simp]
             exact h
            clear S9 S12 o1
            have o1 := BlkAt.cell (S10.out.get 4 rfl) 1; simp only [List.getElem?_cons_succ,List.getElem?_cons_zero] at o1
            have o1f := BlkAt.free (S10.out.get 4 rfl) 1
            have S11 : Hid (Sep w.heap.size w [eBlk q.pb 126 (sySt a p unc AU cU q),eBlk q.lb 4 (mkB a.n.toNat left),eMap keyI veV q.mb (bkF a.ed q.vs),eRwsG encI 1 3 (predsOf a.ed) q.vs,eBlk cb 49 [.slice A1' (K ++ [(k : Int)]).length c1',.slice A2' (D ++ [dk]).length c2',.slice AR R.length cR,.int .i64 rk,.slice none 0 0,.int .i64 0,.slice none 0 0,.slice none 0 0,.slice none 0 0],eRms S' (.slice AR R.length cR),eInts (K ++ [(k : Int)]) (.slice A1' (K ++ [(k : Int)]).length c1'),eInts (D ++ [dk]) (.slice A2' (D ++ [dk]).length c2'),eBlk g 3 (mkI a.n.toNat d),eBlk rb 49 [.slice none 0 0,.slice none 0 0,.slice none 0 0,.int .i64 0,.slice none 0 0,.int .i64 0,.slice none 0 0,.slice none 0 0,.slice none 0 0],eBlk tb 39 [.slice p.A1 a.al.length p.c1,.int .i64 a.n,.slice p.A2 a.mr.length p.c2,.slice p.A3 a.ed.length p.c3]] (w7.setCell ⟨cb,1,none⟩ (.slice A2' (D.length + 1) c2'))) := by
             have h := S10.out.set 4 rfl 1 (.slice A2' (D.length + 1) c2')
             rw [show (D ++ [dk]).length = D.length + 1 by simp]
             exact h
            clear S10
            go_wp2_with fail
            go_roundw
            case rel => exact ⟨k + 1,K ++ [(k : Int)],D ++ [dk],A1',c1',A2',c2',by omega,by go_num,HK2.out,HD2.out,S11.out⟩
            case measure => simp [intOf]; omega
        · obtain rfl : k = a.n.toNat := by omega
          have HKO : Hid (KeptOk a forb unc K D S') := by
           rw [Hid,HK.out,HDD.out]
           obtain ⟨h1,d0,h2,h3⟩ := HLD.out
           refine HRS.out.kept HP.out HNN.out h1 HD.out (blk_none h2 HD.out (fun x hx => ?_) h3) HPM.out HPW.out
           obtain ⟨k,hk,hkx⟩ := List.mem_iff_getElem.1 hx
           have := HP.out.ha.ed k hk x (by rw [← hkx]; exact List.getElem?_eq_getElem hk)
           have e := HNN.out
           exact ⟨⟨this.1,by have := this.2.1; omega⟩,this.2.2.1,by have := this.2.2.2.1; omega⟩
          have SY := Lib.hid (syAt S.out HQ.out (HA.out.below S.out.below) (HU.out.below IntE.stays S.out.below))
          have CV := Lib.hid (supervisor_c a p unc AU cU q left wr HP.out.ha SY.out hel hee)
          clear SY hDl hKl
          go_wp2_with fail
          refine CV.out.mono ?_
          rintro e w5 ⟨s,ps,l2,AO,cO,rfl,HSV,h⟩
          obtain ⟨sal,sn,smr,sed⟩ := s
          obtain ⟨B1,b1,B2,b2,B3,b3⟩ := ps
          have S6 : Hid (Sep w.heap.size w [eBlk q.pb 126 (sySt a p unc AU cU q),eBlk q.lb 4 (mkB a.n.toNat left),eMap keyI veV q.mb (bkF a.ed q.vs),eRwsG encI 1 3 (predsOf a.ed) q.vs,eBlk cb 49 [.slice AK K.length cK,.slice AD D.length cD,.slice AR R.length cR,.int .i64 rk,.slice none 0 0,.int .i64 0,.slice none 0 0,.slice none 0 0,.slice none 0 0],eRms S' (.slice AR R.length cR),eInts K (.slice AK K.length cK),eInts D (.slice AD D.length cD),eBlk g 3 (mkI a.n.toNat d),eBlk rb 49 [.slice none 0 0,.slice none 0 0,.slice none 0 0,.int .i64 0,.slice none 0 0,.int .i64 0,.slice none 0 0,.slice none 0 0,.slice none 0 0],eBlk tb 39 [.slice p.A1 a.al.length p.c1,.int .i64 a.n,.slice p.A2 a.mr.length p.c2,.slice p.A3 a.ed.length p.c3],eInts sal (.slice B1 sal.length b1),eInts smr (.slice B2 smr.length b2),eEds sed (.slice B3 sed.length b3),eInts l2 (.slice AO l2.length cO)] w5) := (S.out.news h.out).pick [4,5,6,7,8,9,10,11,12,13,14,0,1,2,3] (by decide)
          clear CV h S
          have o4 := BlkAt.cell (S6.out.get 4 rfl) 4; have o5 := BlkAt.cell (S6.out.get 4 rfl) 5; have o6 := BlkAt.cell (S6.out.get 4 rfl) 6; have o7 := BlkAt.cell (S6.out.get 4 rfl) 7; have o8 := BlkAt.cell (S6.out.get 4 rfl) 8; simp only [List.getElem?_cons_succ,List.getElem?_cons_zero] at o4 o5 o6 o7 o8
          have o4f := BlkAt.free (S6.out.get 4 rfl) 4; have o5f := BlkAt.free (S6.out.get 4 rfl) 5; have o6f := BlkAt.free (S6.out.get 4 rfl) 6; have o7f := BlkAt.free (S6.out.get 4 rfl) 7; have o8f := BlkAt.free (S6.out.get 4 rfl) 8
          have S7 : Hid (Sep w.heap.size w [eBlk q.pb 126 (sySt a p unc AU cU q),eBlk q.lb 4 (mkB a.n.toNat left),eMap keyI veV q.mb (bkF a.ed q.vs),eRwsG encI 1 3 (predsOf a.ed) q.vs,eBlk cb 49 [.slice AK K.length cK,.slice AD D.length cD,.slice AR R.length cR,.int .i64 rk,.slice B1 sal.length b1,.int .i64 sn,.slice B2 smr.length b2,.slice B3 sed.length b3,.slice AO l2.length cO],eRms S' (.slice AR R.length cR),eInts K (.slice AK K.length cK),eInts D (.slice AD D.length cD),eBlk g 3 (mkI a.n.toNat d),eBlk rb 49 [.slice none 0 0,.slice none 0 0,.slice none 0 0,.int .i64 0,.slice none 0 0,.int .i64 0,.slice none 0 0,.slice none 0 0,.slice none 0 0],eBlk tb 39 [.slice p.A1 a.al.length p.c1,.int .i64 a.n,.slice p.A2 a.mr.length p.c2,.slice p.A3 a.ed.length p.c3],eInts sal (.slice B1 sal.length b1),eInts smr (.slice B2 smr.length b2),eEds sed (.slice B3 sed.length b3),eInts l2 (.slice AO l2.length cO)] ((((((w5.setCell ⟨cb,4,none⟩ (.slice B1 sal.length b1)).setCell ⟨cb,5,none⟩ (.int .i64 sn)).setCell ⟨cb,6,none⟩ (.slice B2 smr.length b2)).setCell ⟨cb,7,none⟩ (.slice B3 sed.length b3)).setCell ⟨cb,8,none⟩ (.slice AO l2.length cO)))) := ((((S6.out.set 4 rfl 4 _).set 4 rfl 5 _).set 4 rfl 6 _).set 4 rfl 7 _).set 4 rfl 8 _
          clear S6
          go_upto_region 29 with fail
          refine wp_world (fun V => Hid (Sep w.heap.size w [eBlk q.pb 126 (sySt a p unc AU cU q),eBlk q.lb 4 (mkB a.n.toNat left),eMap keyI veV q.mb (bkF a.ed q.vs),eRwsG encI 1 3 (predsOf a.ed) q.vs,eBlk cb 49 [.slice AK K.length cK,.slice AD D.length cD,.slice AR R.length cR,.int .i64 rk,.slice B1 sal.length b1,.int .i64 sn,.slice B2 smr.length b2,.slice B3 sed.length b3,.slice AO l2.length cO],eRms S' (.slice AR R.length cR),eInts K (.slice AK K.length cK),eInts D (.slice AD D.length cD),eBlk g 3 (mkI a.n.toNat d),eBlk rb 49 [.slice none 0 0,.slice none 0 0,.slice none 0 0,.int .i64 0,.slice none 0 0,.int .i64 0,.slice none 0 0,.slice none 0 0,.slice none 0 0],eBlk tb 39 [.slice p.A1 a.al.length p.c1,.int .i64 a.n,.slice p.A2 a.mr.length p.c2,.slice p.A3 a.ed.length p.c3],eInts sal (.slice B1 sal.length b1),eInts smr (.slice B2 smr.length b2),eEds sed (.slice B3 sed.length b3),eInts l2 (.slice AO l2.length cO)] V)) S7 fun V S8 => ?_
          clear S7 o4 o5 o6 o7 o8 o4f o5f o6f o7f o8f
          have o0 := BlkAt.cell (S8.out.get 4 rfl) 0; have o1 := BlkAt.cell (S8.out.get 4 rfl) 1; have o2 := BlkAt.cell (S8.out.get 4 rfl) 2; have o3 := BlkAt.cell (S8.out.get 4 rfl) 3; have o4 := BlkAt.cell (S8.out.get 4 rfl) 4; have o5 := BlkAt.cell (S8.out.get 4 rfl) 5; have o6 := BlkAt.cell (S8.out.get 4 rfl) 6; have o7 := BlkAt.cell (S8.out.get 4 rfl) 7; have o8 := BlkAt.cell (S8.out.get 4 rfl) 8; simp only [List.getElem?_cons_succ,List.getElem?_cons_zero] at o0 o1 o2 o3 o4 o5 o6 o7 o8
          have r0 := BlkAt.cell (S8.out.get 9 rfl) 0; have r1 := BlkAt.cell (S8.out.get 9 rfl) 1; have r2 := BlkAt.cell (S8.out.get 9 rfl) 2; have r3 := BlkAt.cell (S8.out.get 9 rfl) 3; have r4 := BlkAt.cell (S8.out.get 9 rfl) 4; have r5 := BlkAt.cell (S8.out.get 9 rfl) 5; have r6 := BlkAt.cell (S8.out.get 9 rfl) 6; have r7 := BlkAt.cell (S8.out.get 9 rfl) 7; have r8 := BlkAt.cell (S8.out.get 9 rfl) 8; simp only [List.getElem?_cons_succ,List.getElem?_cons_zero] at r0 r1 r2 r3 r4 r5 r6 r7 r8
          have f0 := BlkAt.free (S8.out.get 9 rfl) 0; have f1 := BlkAt.free (S8.out.get 9 rfl) 1; have f2 := BlkAt.free (S8.out.get 9 rfl) 2; have f3 := BlkAt.free (S8.out.get 9 rfl) 3; have f4 := BlkAt.free (S8.out.get 9 rfl) 4; have f5 := BlkAt.free (S8.out.get 9 rfl) 5; have f6 := BlkAt.free (S8.out.get 9 rfl) 6; have f7 := BlkAt.free (S8.out.get 9 rfl) 7; have f8 := BlkAt.free (S8.out.get 9 rfl) 8
          have S9 : Hid (Sep w.heap.size w [eBlk q.pb 126 (sySt a p unc AU cU q),eBlk q.lb 4 (mkB a.n.toNat left),eMap keyI veV q.mb (bkF a.ed q.vs),eRwsG encI 1 3 (predsOf a.ed) q.vs,eBlk cb 49 [.slice AK K.length cK,.slice AD D.length cD,.slice AR R.length cR,.int .i64 rk,.slice B1 sal.length b1,.int .i64 sn,.slice B2 smr.length b2,.slice B3 sed.length b3,.slice AO l2.length cO],eRms S' (.slice AR R.length cR),eInts K (.slice AK K.length cK),eInts D (.slice AD D.length cD),eBlk g 3 (mkI a.n.toNat d),eBlk rb 49 [.slice AK K.length cK,.slice AD D.length cD,.slice AR R.length cR,.int .i64 rk,.slice B1 sal.length b1,.int .i64 sn,.slice B2 smr.length b2,.slice B3 sed.length b3,.slice AO l2.length cO],eBlk tb 39 [.slice p.A1 a.al.length p.c1,.int .i64 a.n,.slice p.A2 a.mr.length p.c2,.slice p.A3 a.ed.length p.c3],eInts sal (.slice B1 sal.length b1),eInts smr (.slice B2 smr.length b2),eEds sed (.slice B3 sed.length b3),eInts l2 (.slice AO l2.length cO)] ((((((((((V.setCell ⟨rb,0,none⟩ (.slice AK K.length cK)).setCell ⟨rb,1,none⟩ (.slice AD D.length cD)).setCell ⟨rb,2,none⟩ (.slice AR R.length cR)).setCell ⟨rb,3,none⟩ (.int .i64 rk)).setCell ⟨rb,4,none⟩ (.slice B1 sal.length b1)).setCell ⟨rb,5,none⟩ (.int .i64 sn)).setCell ⟨rb,6,none⟩ (.slice B2 smr.length b2)).setCell ⟨rb,7,none⟩ (.slice B3 sed.length b3)).setCell ⟨rb,8,none⟩ (.slice AO l2.length cO)))) := (((((((((S8.out.set 9 rfl 0 _).set 9 rfl 1 _).set 9 rfl 2 _).set 9 rfl 3 _).set 9 rfl 4 _).set 9 rfl 5 _).set 9 rfl 6 _).set 9 rfl 7 _).set 9 rfl 8 _)
          have q0 := BlkAt.cell (S9.out.get 9 rfl) 0; have q1 := BlkAt.cell (S9.out.get 9 rfl) 1; have q2 := BlkAt.cell (S9.out.get 9 rfl) 2; have q3 := BlkAt.cell (S9.out.get 9 rfl) 3; have q4 := BlkAt.cell (S9.out.get 9 rfl) 4; have q5 := BlkAt.cell (S9.out.get 9 rfl) 5; have q6 := BlkAt.cell (S9.out.get 9 rfl) 6; have q7 := BlkAt.cell (S9.out.get 9 rfl) 7; have q8 := BlkAt.cell (S9.out.get 9 rfl) 8; simp only [List.getElem?_cons_succ,List.getElem?_cons_zero] at q0 q1 q2 q3 q4 q5 q6 q7 q8
          clear S8
          have HSL : Hid (S'.length = R.length) := HPM.out.length_eq
          go_wp2_with fail
          refine bodyPost_ret (v := .agg #[.slice AK K.length cK,.slice AD D.length cD,.slice AR R.length cR,.int .i64 rk,.slice B1 sal.length b1,.int .i64 sn,.slice B2 smr.length b2,.slice B3 sed.length b3,.slice AO l2.length cO]) (by simp [results,Try.results20,go_sem, *]) rfl ?_
          refine ⟨K,D,S',⟨AK,cK,AD,cD,AR,cR⟩,rk,⟨sal,sn,smr,sed⟩,⟨B1,b1,B2,b2,B3,b3⟩,l2,AO,cO,left,?_,HKO.out,HK.out,HSV.out,?_⟩
          · dsimp only
            rw [HSL.out]
          · have h := S9.out.pick [6,7,5,11,12,13,14] (by decide)
            dsimp only
            rw [HSL.out]
            exact h
     · have hlp : 0 < l.length := by
        rcases Nat.eq_zero_or_pos l.length with g | g
        · exact absurd (List.eq_nil_of_length_eq_zero g) hl0
        · exact g
       have hle : ((l.length : Int) == 0) = false := beq_eq_false_iff_ne.2 (by omega)
       have hle2 : (l.length == 0) = false := beq_eq_false_iff_ne.2 (by omega)
       have HRS2 := Lib.hid HNR.out.2
       have HLR := Lib.hid HNR.out.1
       have hRl2 : R.length + l.length ≤ a.n.toNat := by have := HRS2.out.lenR; rwa [List.length_append] at this
       clear HNR HNX HRS hl0
       have S3 : Hid (Sep w.heap.size w [eBlk q.pb 126 (sySt a p unc AU cU q),eBlk q.lb 4 (mkB a.n.toNat (midF left l 0)),eMap keyI veV q.mb (bkF a.ed q.vs),eRwsG encI 1 3 (predsOf a.ed) q.vs,eBlk cb 49 [.slice none 0 0,.slice none 0 0,.slice AR R.length cR,.int .i64 rk,.slice none 0 0,.int .i64 0,.slice none 0 0,.slice none 0 0,.slice none 0 0],eRms R (.slice AR R.length cR),eBlk rb 49 [.slice none 0 0,.slice none 0 0,.slice none 0 0,.int .i64 0,.slice none 0 0,.int .i64 0,.slice none 0 0,.slice none 0 0,.slice none 0 0],eBlk tb 39 [.slice p.A1 a.al.length p.c1,.int .i64 a.n,.slice p.A2 a.mr.length p.c2,.slice p.A3 a.ed.length p.c3],eRms l (.slice Al l.length cl)] w2) := by rw [midF_0]; exact S2.out
       clear S2
       go_wp2_with fail
       go_loopw [51] (fun vk wr => ∃ (k : Nat),k ≤ l.length ∧ vk = .int .i64 (k : Int) ∧ Hid (Sep w.heap.size w [eBlk q.pb 126 (sySt a p unc AU cU q),eBlk q.lb 4 (mkB a.n.toNat (midF left l k)),eMap keyI veV q.mb (bkF a.ed q.vs),eRwsG encI 1 3 (predsOf a.ed) q.vs,eBlk cb 49 [.slice none 0 0,.slice none 0 0,.slice AR R.length cR,.int .i64 rk,.slice none 0 0,.int .i64 0,.slice none 0 0,.slice none 0 0,.slice none 0 0],eRms R (.slice AR R.length cR),eBlk rb 49 [.slice none 0 0,.slice none 0 0,.slice none 0 0,.int .i64 0,.slice none 0 0,.int .i64 0,.slice none 0 0,.slice none 0 0,.slice none 0 0],eBlk tb 39 [.slice p.A1 a.al.length p.c1,.int .i64 a.n,.slice p.A2 a.mr.length p.c2,.slice p.A3 a.ed.length p.c3],eRms l (.slice Al l.length cl)] wr)) (fun vk _ => l.length - (intOf vk).toNat)
       case atStart => exact ⟨0,by omega,rfl,S3.out⟩
       case round =>
        clear S3
        obtain ⟨k,hk,rfl,S⟩ := hrel
        by_cases hlt : k < l.length
        · obtain ⟨x,hx⟩ : ∃ x,l[k]? = some x := ⟨_,List.getElem?_eq_getElem hlt⟩
          obtain ⟨gl,ol,rfl,e0,e1,e2,e3⟩ := S.out.rmAt 8 rfl hx
          have hxr := HLR.out x (List.mem_of_getElem? hx)
          obtain ⟨xs,xr,xc,xe⟩ := x
          dsimp only at hxr e0 e1 e2 e3
          obtain ⟨s,rfl⟩ := Int.eq_ofNat_of_zero_le hxr.1
          have hsN : s < a.n.toNat := by omega
          have HX := Lib.hid hx
          obtain ⟨xb,hxb⟩ : ∃ g,g = wr.heap.size := ⟨_,rfl⟩
          clear hx hxr
          go_upto_region 16 with fail
          rw [← hxb]
          refine wp_world (fun V => Hid (Sep w.heap.size w [eBlk xb 70 [.int .i64 (s : Int),.int .i64 xr,.int .i64 xc,.int .i64 xe],eBlk q.pb 126 (sySt a p unc AU cU q),eBlk q.lb 4 (mkB a.n.toNat (midF left l k)),eMap keyI veV q.mb (bkF a.ed q.vs),eRwsG encI 1 3 (predsOf a.ed) q.vs,eBlk cb 49 [.slice none 0 0,.slice none 0 0,.slice AR R.length cR,.int .i64 rk,.slice none 0 0,.int .i64 0,.slice none 0 0,.slice none 0 0,.slice none 0 0],eRms R (.slice AR R.length cR),eBlk rb 49 [.slice none 0 0,.slice none 0 0,.slice none 0 0,.int .i64 0,.slice none 0 0,.int .i64 0,.slice none 0 0,.slice none 0 0,.slice none 0 0],eBlk tb 39 [.slice p.A1 a.al.length p.c1,.int .i64 a.n,.slice p.A2 a.mr.length p.c2,.slice p.A3 a.ed.length p.c3],eRms l (.slice (some ⟨gl,ol,none⟩) l.length cl)] V)) (S.out.alloc' _ [_,_,_,_] rfl hxb) fun V S2 => ?_
          clear S hxb e0 e1 e2 e3
          have SD := Lib.hid S2.out.drew
          have x0 := BlkAt.cell (SD.out.get 0 rfl) 0; simp only [List.getElem?_cons_succ,List.getElem?_cons_zero] at x0
          have p6 := BlkAt.cell (SD.out.get 1 rfl) 6; simp only [sySt,List.getElem?_cons_succ,List.getElem?_cons_zero] at p6
          have gf := BlkAt.free (SD.out.get 2 rfl) s
          have gc := (BlkAt.cell (SD.out.get 2 rfl) s).trans (mkB_get hsN)
          have S3 : Hid (Sep w.heap.size w [eBlk xb 70 [.int .i64 (s : Int),.int .i64 xr,.int .i64 xc,.int .i64 xe],eBlk q.pb 126 (sySt a p unc AU cU q),eBlk q.lb 4 (mkB a.n.toNat (midF left l (k + 1))),eMap keyI veV q.mb (bkF a.ed q.vs),eRwsG encI 1 3 (predsOf a.ed) q.vs,eBlk cb 49 [.slice none 0 0,.slice none 0 0,.slice AR R.length cR,.int .i64 rk,.slice none 0 0,.int .i64 0,.slice none 0 0,.slice none 0 0,.slice none 0 0],eRms R (.slice AR R.length cR),eBlk rb 49 [.slice none 0 0,.slice none 0 0,.slice none 0 0,.int .i64 0,.slice none 0 0,.int .i64 0,.slice none 0 0,.slice none 0 0,.slice none 0 0],eBlk tb 39 [.slice p.A1 a.al.length p.c1,.int .i64 a.n,.slice p.A2 a.mr.length p.c2,.slice p.A3 a.ed.length p.c3],eRms l (.slice (some ⟨gl,ol,none⟩) l.length cl)] (V.drew.setCell ⟨q.lb,s,none⟩ (.bool false))) := by
           have h := SD.out.set 2 rfl s (.bool false)
           rw [mkB_clear,midF_set HX.out rfl] at h
           exact h
          clear S2 SD HX
          go_region
          all_goals
           go_wp2_with fail
           go_roundw
           case rel => exact ⟨k + 1,by omega,by go_num,S3.out.drop1⟩
           case measure => simp [intOf]; omega
        · obtain rfl : k = l.length := by omega
          obtain ⟨gl,rfl⟩ := Own.formB (S.out.get 8 rfl) hlp
          have o2 := BlkAt.cell (S.out.get 4 rfl) 2; simp only [List.getElem?_cons_succ,List.getElem?_cons_zero] at o2
          go_wp2_with (at_builtin; refine wpList_pushNS rfl _ _ 45 rfl S.out 5 rfl Try.underlying45 _ 32 rmInfoS rfl (by decide) rfl l gl cl rfl (fun _ => rfl) (fun j u hj => Own.cellB (S.out.get 8 rfl) hj) rmOne (by omega) (by decide) ?_)
          intro A' c' w6 S9 _
          have S10 : Hid (Sep w.heap.size w [eBlk q.pb 126 (sySt a p unc AU cU q),eBlk q.lb 4 (mkB a.n.toNat (midF left l l.length)),eMap keyI veV q.mb (bkF a.ed q.vs),eRwsG encI 1 3 (predsOf a.ed) q.vs,eBlk cb 49 [.slice none 0 0,.slice none 0 0,.slice AR R.length cR,.int .i64 rk,.slice none 0 0,.int .i64 0,.slice none 0 0,.slice none 0 0,.slice none 0 0],eRms (R ++ l) (.slice A' (R.length + l.length) c'),eBlk rb 49 [.slice none 0 0,.slice none 0 0,.slice none 0 0,.int .i64 0,.slice none 0 0,.int .i64 0,.slice none 0 0,.slice none 0 0,.slice none 0 0],eBlk tb 39 [.slice p.A1 a.al.length p.c1,.int .i64 a.n,.slice p.A2 a.mr.length p.c2,.slice p.A3 a.ed.length p.c3]] w6) := S9.pick [0,1,2,3,4,5,6,7] (by decide)
          clear S9 S o2
          have o2 := BlkAt.cell (S10.out.get 4 rfl) 2; simp only [List.getElem?_cons_succ,List.getElem?_cons_zero] at o2
          have o2f := BlkAt.free (S10.out.get 4 rfl) 2
          have o3 := BlkAt.cell (S10.out.get 4 rfl) 3; simp only [List.getElem?_cons_succ,List.getElem?_cons_zero] at o3
          have o3f := BlkAt.free (S10.out.get 4 rfl) 3
          have S11 : Hid (Sep w.heap.size w [eBlk q.pb 126 (sySt a p unc AU cU q),eBlk q.lb 4 (mkB a.n.toNat (midF left l l.length)),eMap keyI veV q.mb (bkF a.ed q.vs),eRwsG encI 1 3 (predsOf a.ed) q.vs,eBlk cb 49 [.slice none 0 0,.slice none 0 0,.slice A' (R ++ l).length c',.int .i64 (rank : Int),.slice none 0 0,.int .i64 0,.slice none 0 0,.slice none 0 0,.slice none 0 0],eRms (R ++ l) (.slice A' (R ++ l).length c'),eBlk rb 49 [.slice none 0 0,.slice none 0 0,.slice none 0 0,.int .i64 0,.slice none 0 0,.int .i64 0,.slice none 0 0,.slice none 0 0,.slice none 0 0],eBlk tb 39 [.slice p.A1 a.al.length p.c1,.int .i64 a.n,.slice p.A2 a.mr.length p.c2,.slice p.A3 a.ed.length p.c3]] ((w6.setCell ⟨cb,2,none⟩ (.slice A' (R.length + l.length) c')).setCell ⟨cb,3,none⟩ (.int .i64 (rank : Int)))) := by
           have h := (S10.out.set 4 rfl 2 (.slice A' (R.length + l.length) c')).set 4 rfl 3 (.int .i64 (rank : Int))
           rw [show (R ++ l).length = R.length + l.length by simp]
           exact h
          clear S10
          have HRS3 : Hid (RS a forb unc a.n.toNat ((rank + 1 : Nat) : Int) (midF left l l.length) (R ++ l)) := by
           have h := HRS2.out
           rw [Hid,Int.natCast_add]
           exact h
          go_wp2_with fail
          go_roundw
          case rel => exact ⟨rank + 1,_,R ++ l,A',c',_,by go_num,by omega,by rw [List.length_append]; omega,HRS3.out,S11.out⟩
          case measure => simp [intOf]; omega
set_option maxHeartbeats 2000000 in
theorem checkS_c (a : Au) (p : AuP) (forb unc : List Int) (AF : Option Addr) (cF : Nat) (AU : Option Addr) (cU : Nat) (w : World) (hp : PrRight a forb unc) (hA : Au.At w a p) (hF : IntsAt w AF forb) (hU : IntsAt w AU unc) (hfl : forb.length ≤ 140737488355328) (hul : unc.length ≤ 140737488355328) :
 Calls Try.prog 19 #[a.val p,.slice AF forb.length cF,.slice AU unc.length cU] w (Ret (.int .i64 0) w) := by
 have HA := Lib.hid hA
 have HF := Lib.hid hF
 have HU := Lib.hid hU
 have HP := Lib.hid hp
 clear hA hF hU hp
 go_enter Try.func19,Try.ntmps19
 obtain ⟨tb,htb⟩ : ∃ g,g = w.heap.size := ⟨_,rfl⟩
 go_upto_region 1 with fail
 try rw [← htb]
 refine wp_world (fun W => Sep w.heap.size w [eBlk tb 39 [.slice p.A1 a.al.length p.c1,.int .i64 a.n,.slice p.A2 a.mr.length p.c2,.slice p.A3 a.ed.length p.c3]] W) ((Sep.here w).alloc' _ [_,_,_,_] rfl htb) fun W S => ?_
 have S0 := Lib.hid S
 clear S htb
 have t0 := BlkAt.cell (S0.out.get 0 rfl) 0; have t1 := BlkAt.cell (S0.out.get 0 rfl) 1; have t2 := BlkAt.cell (S0.out.get 0 rfl) 2; have t3 := BlkAt.cell (S0.out.get 0 rfl) 3; simp only [List.getElem?_cons_succ,List.getElem?_cons_zero] at t0 t1 t2 t3
 have CC := Lib.hid (Check_c a p W (HA.out.below S0.out.below))
 go_wp2_with fail
 refine CC.out.mono ?_
 rintro e w1 ⟨r,rfl,hr,hb⟩
 have hr0 : r = 0 := hr.2 HP.out.ha
 subst hr0
 have S1 := Lib.hid (S0.out.next hb)
 clear CC hb S0 t0 t1 t2 t3 hr
 have t1 := BlkAt.cell (S1.out.get 0 rfl) 1; simp only [List.getElem?_cons_succ,List.getElem?_cons_zero] at t1
 have C1 := Lib.hid (checkSetA_c AF cF forb a.n w1 (HF.out.below IntE.stays S1.out.below) (by simp only [maxLen]; omega))
 have C2 := Lib.hid (checkSetA_c AU cU unc 32 w1 (HU.out.below IntE.stays S1.out.below) (by simp only [maxLen]; omega))
 go_wp2_with fail
 refine C1.out.mono ?_
 rintro e w2 ⟨r,rfl,hr,rfl⟩
 have hr0 : r = 0 := hr.2 HP.out.hf
 subst hr0
 clear C1 hr
 go_wp2_with fail
 refine C2.out.mono ?_
 rintro e w2 ⟨r,rfl,hr,rfl⟩
 have hr0 : r = 0 := hr.2 HP.out.hu
 subst hr0
 clear C2 hr
 go_wp2_with fail
 go_ret
 exact ⟨rfl,S1.out.below⟩
def GivesSy (a : Au) (forb unc : List Int) (w : World) (e : Ending) (w' : World) : Prop := ∃ (K D : List Int) (R : List Rm) (cp : CeP) (rk : Int) (s : Au) (ps : AuP) (l : List Int) (AO : Option Addr) (cO : Nat) (left : Nat → Bool),e = .returned (.tuple #[.agg #[.slice cp.AK K.length cp.cK,.slice cp.AD D.length cp.cD,.slice cp.AR R.length cp.cR,.int .i64 rk,.slice ps.A1 s.al.length ps.c1,.int .i64 s.n,.slice ps.A2 s.mr.length ps.c2,.slice ps.A3 s.ed.length ps.c3,.slice AO l.length cO],.int .i64 0]) ∧
 Hid (KeptOk a forb unc K D R) ∧ Hid (K = mkV left a.n.toNat) ∧ Hid (SvOk a left s l) ∧ Hid (Sep w.heap.size w [eInts K (.slice cp.AK K.length cp.cK),eInts D (.slice cp.AD D.length cp.cD),eRms R (.slice cp.AR R.length cp.cR),eInts s.al (.slice ps.A1 s.al.length ps.c1),eInts s.mr (.slice ps.A2 s.mr.length ps.c2),eEds s.ed (.slice ps.A3 s.ed.length ps.c3),eInts l (.slice AO l.length cO)] w')
set_option maxHeartbeats 4000000 in
theorem synthesize_c (a : Au) (p : AuP) (forb unc : List Int) (AF : Option Addr) (cF : Nat) (AU : Option Addr) (cU : Nat) (w : World) (hp : PrRight a forb unc) (hA : Au.At w a p) (hF : IntsAt w AF forb) (hU : IntsAt w AU unc) (hel : a.n.toNat * a.ed.length ≤ 1000000) (hee : a.ed.length ≤ 1000000) (hfl : forb.length ≤ 140737488355328) (hul : unc.length ≤ 140737488355328) :
 Calls Try.prog 7 #[a.val p,.slice AF forb.length cF,.slice AU unc.length cU] w (GivesSy a forb unc w) := by
 have HA := Lib.hid hA
 have HF := Lib.hid hF
 have HU := Lib.hid hU
 have HP := Lib.hid hp
 clear hA hF hU hp
 go_enter Try.func7,Try.ntmps7
 obtain ⟨tb,htb⟩ : ∃ g,g = w.heap.size := ⟨_,rfl⟩
 obtain ⟨rb,hrb⟩ : ∃ g,g = w.heap.size + 1 := ⟨_,rfl⟩
 go_upto_region 1 with fail
 try rw [← hrb]
 try rw [← htb]
 refine wp_world (fun W => Sep w.heap.size w [eBlk rb 49 [.slice none 0 0,.slice none 0 0,.slice none 0 0,.int .i64 0,.slice none 0 0,.int .i64 0,.slice none 0 0,.slice none 0 0,.slice none 0 0],eBlk tb 39 [.slice p.A1 a.al.length p.c1,.int .i64 a.n,.slice p.A2 a.mr.length p.c2,.slice p.A3 a.ed.length p.c3]] W) (((Sep.here w).alloc' _ [_,_,_,_] rfl htb).alloc' _ [_,_,_,_,_,_,_,_,_] rfl (by simp; omega)) fun W S => ?_
 have S0 := Lib.hid S
 clear S htb hrb
 have t0 := BlkAt.cell (S0.out.get 1 rfl) 0; have t1 := BlkAt.cell (S0.out.get 1 rfl) 1; have t2 := BlkAt.cell (S0.out.get 1 rfl) 2; have t3 := BlkAt.cell (S0.out.get 1 rfl) 3; simp only [List.getElem?_cons_succ,List.getElem?_cons_zero] at t0 t1 t2 t3
 have CC := Lib.hid (checkS_c a p forb unc AF cF AU cU W HP.out (HA.out.below S0.out.below) (HF.out.below IntE.stays S0.out.below) (HU.out.below IntE.stays S0.out.below) hfl hul)
 go_wp2_with fail
 refine CC.out.mono ?_
 rintro e w1 ⟨rfl,hb⟩
 have S1 := Lib.hid (S0.out.next hb)
 clear CC hb S0 t0 t1 t2 t3
 have t0 := BlkAt.cell (S1.out.get 1 rfl) 0; have t1 := BlkAt.cell (S1.out.get 1 rfl) 1; have t2 := BlkAt.cell (S1.out.get 1 rfl) 2; have t3 := BlkAt.cell (S1.out.get 1 rfl) 3; simp only [List.getElem?_cons_succ,List.getElem?_cons_zero] at t0 t1 t2 t3
 have CR := Lib.hid (result_c a p forb unc AF cF AU cU w1 HP.out (HA.out.below S1.out.below) (HF.out.below IntE.stays S1.out.below) (HU.out.below IntE.stays S1.out.below) hel hee)
 go_wp2_with fail
 refine CR.out.mono ?_
 rintro e w2 ⟨K,D,R,cp,rk,s,ps,l,AO,cO,left,rfl,HK,HM,HV,h⟩
 have S2 : Hid (Sep w.heap.size w [eInts K (.slice cp.AK K.length cp.cK),eInts D (.slice cp.AD D.length cp.cD),eRms R (.slice cp.AR R.length cp.cR),eInts s.al (.slice ps.A1 s.al.length ps.c1),eInts s.mr (.slice ps.A2 s.mr.length ps.c2),eEds s.ed (.slice ps.A3 s.ed.length ps.c3),eInts l (.slice AO l.length cO),eBlk rb 49 [.slice none 0 0,.slice none 0 0,.slice none 0 0,.int .i64 0,.slice none 0 0,.int .i64 0,.slice none 0 0,.slice none 0 0,.slice none 0 0],eBlk tb 39 [.slice p.A1 a.al.length p.c1,.int .i64 a.n,.slice p.A2 a.mr.length p.c2,.slice p.A3 a.ed.length p.c3]] w2) := S1.out.news h.out
 clear CR h S1 t0 t1 t2 t3
 have r0 := BlkAt.cell (S2.out.get 7 rfl) 0; have r1 := BlkAt.cell (S2.out.get 7 rfl) 1; have r2 := BlkAt.cell (S2.out.get 7 rfl) 2; have r3 := BlkAt.cell (S2.out.get 7 rfl) 3; have r4 := BlkAt.cell (S2.out.get 7 rfl) 4; have r5 := BlkAt.cell (S2.out.get 7 rfl) 5; have r6 := BlkAt.cell (S2.out.get 7 rfl) 6; have r7 := BlkAt.cell (S2.out.get 7 rfl) 7; have r8 := BlkAt.cell (S2.out.get 7 rfl) 8; simp only [List.getElem?_cons_succ,List.getElem?_cons_zero] at r0 r1 r2 r3 r4 r5 r6 r7 r8
 have f0 := BlkAt.free (S2.out.get 7 rfl) 0; have f1 := BlkAt.free (S2.out.get 7 rfl) 1; have f2 := BlkAt.free (S2.out.get 7 rfl) 2; have f3 := BlkAt.free (S2.out.get 7 rfl) 3; have f4 := BlkAt.free (S2.out.get 7 rfl) 4; have f5 := BlkAt.free (S2.out.get 7 rfl) 5; have f6 := BlkAt.free (S2.out.get 7 rfl) 6; have f7 := BlkAt.free (S2.out.get 7 rfl) 7; have f8 := BlkAt.free (S2.out.get 7 rfl) 8
 have S3 : Hid (Sep w.heap.size w [eInts K (.slice cp.AK K.length cp.cK),eInts D (.slice cp.AD D.length cp.cD),eRms R (.slice cp.AR R.length cp.cR),eInts s.al (.slice ps.A1 s.al.length ps.c1),eInts s.mr (.slice ps.A2 s.mr.length ps.c2),eEds s.ed (.slice ps.A3 s.ed.length ps.c3),eInts l (.slice AO l.length cO),eBlk rb 49 [.slice cp.AK K.length cp.cK,.slice cp.AD D.length cp.cD,.slice cp.AR R.length cp.cR,.int .i64 rk,.slice ps.A1 s.al.length ps.c1,.int .i64 s.n,.slice ps.A2 s.mr.length ps.c2,.slice ps.A3 s.ed.length ps.c3,.slice AO l.length cO],eBlk tb 39 [.slice p.A1 a.al.length p.c1,.int .i64 a.n,.slice p.A2 a.mr.length p.c2,.slice p.A3 a.ed.length p.c3]] ((((((((((w2.setCell ⟨rb,0,none⟩ (.slice cp.AK K.length cp.cK)).setCell ⟨rb,1,none⟩ (.slice cp.AD D.length cp.cD)).setCell ⟨rb,2,none⟩ (.slice cp.AR R.length cp.cR)).setCell ⟨rb,3,none⟩ (.int .i64 rk)).setCell ⟨rb,4,none⟩ (.slice ps.A1 s.al.length ps.c1)).setCell ⟨rb,5,none⟩ (.int .i64 s.n)).setCell ⟨rb,6,none⟩ (.slice ps.A2 s.mr.length ps.c2)).setCell ⟨rb,7,none⟩ (.slice ps.A3 s.ed.length ps.c3)).setCell ⟨rb,8,none⟩ (.slice AO l.length cO)))) := (((((((((S2.out.set 7 rfl 0 _).set 7 rfl 1 _).set 7 rfl 2 _).set 7 rfl 3 _).set 7 rfl 4 _).set 7 rfl 5 _).set 7 rfl 6 _).set 7 rfl 7 _).set 7 rfl 8 _)
 have q0 := BlkAt.cell (S3.out.get 7 rfl) 0; have q1 := BlkAt.cell (S3.out.get 7 rfl) 1; have q2 := BlkAt.cell (S3.out.get 7 rfl) 2; have q3 := BlkAt.cell (S3.out.get 7 rfl) 3; have q4 := BlkAt.cell (S3.out.get 7 rfl) 4; have q5 := BlkAt.cell (S3.out.get 7 rfl) 5; have q6 := BlkAt.cell (S3.out.get 7 rfl) 6; have q7 := BlkAt.cell (S3.out.get 7 rfl) 7; have q8 := BlkAt.cell (S3.out.get 7 rfl) 8; simp only [List.getElem?_cons_succ,List.getElem?_cons_zero] at q0 q1 q2 q3 q4 q5 q6 q7 q8
 clear S2
 go_wp2_with fail
 refine bodyPost_ret (v := .tuple #[.agg #[.slice cp.AK K.length cp.cK,.slice cp.AD D.length cp.cD,.slice cp.AR R.length cp.cR,.int .i64 rk,.slice ps.A1 s.al.length ps.c1,.int .i64 s.n,.slice ps.A2 s.mr.length ps.c2,.slice ps.A3 s.ed.length ps.c3,.slice AO l.length cO],.int .i64 0]) (by simp [results,Try.results7,go_sem, *]) rfl ?_
 exact ⟨K,D,R,cp,rk,s,ps,l,AO,cO,left,rfl,HK.out,HM.out,HV.out,S3.out.pick [0,1,2,3,4,5,6] (by decide)⟩
structure Ev where
 name : ByteArray
 ctl : Bool
 obs : Bool
 frc : Bool
 fault : Int
def Ev.cells (x : Ev) : List Value := [.string x.name,.bool x.ctl,.bool x.obs,.bool x.frc,.int .i64 x.fault]
def EvE : Reading Ev := fun _ x vs => vs = Ev.cells x
theorem EvE.stays : Stays EvE := fun _ _ _ _ _ h => h
abbrev EvsAt := SlAt EvE 5
theorem EvsAt.get {w : World} {A : Option Addr} {l : List Ev} (h : EvsAt w A l) {k : Nat} {x : Ev} (hx : l[k]? = some x) : ∃ b off,A = some ⟨b,off,none⟩ ∧ b < w.heap.size ∧
 w.cell? ⟨b,off + k * 5 + 2,none⟩ = some (.bool x.obs) ∧ w.cell? ⟨b,off + k * 5 + 4,none⟩ = some (.int .i64 x.fault) := by
 obtain ⟨b,off,y,vs,hA,hlt,hy,_,hE,hc⟩ := SlAt.at h (List.getElem?_eq_some_iff.1 hx).1
 obtain rfl : vs = Ev.cells y := hE
 rw [hx] at hy; cases hy
 exact ⟨b,off,hA,hlt,hc 2 _ rfl,hc 4 _ rfl⟩

structure Pa where
 fst : Int
 snd : Int
 rk : Int
deriving DecidableEq
def Pa.cells (x : Pa) : List Value := [.int .i64 x.fst,.int .i64 x.snd,.int .i64 x.rk]
def PaE : Reading Pa := fun _ x vs => vs = Pa.cells x
theorem PaE.stays : Stays PaE := fun _ _ _ _ _ h => h
abbrev PasAt := SlAt PaE 3
theorem PasAt.get {w : World} {A : Option Addr} {l : List Pa} (h : PasAt w A l) {k : Nat} {x : Pa} (hx : l[k]? = some x) : ∃ b off,A = some ⟨b,off,none⟩ ∧ b < w.heap.size ∧
 w.cell? ⟨b,off + k * 3,none⟩ = some (.int .i64 x.fst) ∧ w.cell? ⟨b,off + k * 3 + 1,none⟩ = some (.int .i64 x.snd) ∧ w.cell? ⟨b,off + k * 3 + 2,none⟩ = some (.int .i64 x.rk) := by
 obtain ⟨b,off,y,vs,hA,hlt,hy,_,hE,hc⟩ := SlAt.at h (List.getElem?_eq_some_iff.1 hx).1
 obtain rfl : vs = Pa.cells y := hE
 rw [hx] at hy; cases hy
 exact ⟨b,off,hA,hlt,by simpa using hc 0 _ rfl,hc 1 _ rfl,hc 2 _ rfl⟩

structure PlantOk (nev : Nat) (au : Au) (class_ : Int) : Prop where
 ha : au.Right
 c1 : 1 ≤ class_
 c4 : class_ ≤ 4
 hev : ∀ x,x ∈ au.al → x < nev

set_option maxHeartbeats 400000 in
theorem plant_c (nev : Nat) (AE : Option Addr) (cE : Nat) (au : Au) (p : AuP) (class_ : Int) (w : World) (hp : Au.At w au p) (hnev : nev ≤ 140737488355328) :
 Calls Try.prog 41 #[.slice AE nev cE,au.val p,.int .i64 class_] w (Tells (PlantOk nev au class_) w) := by
 have HA := Lib.hid (Automaton_c au p (w.alloc (.cells #[.slice p.A1 au.al.length p.c1,.int .i64 au.n,.slice p.A2 au.mr.length p.c2,.slice p.A3 au.ed.length p.c3] 39)) (hp.below (Below.new _ _)))
 obtain ⟨al,m,mr,ed⟩ := au
 obtain ⟨A1,c1,A2,c2,A3,c3⟩ := p
 have HP := Lib.hid hp
 have la : al.length ≤ 140737488355328 := hp.lal
 clear hp
 try dsimp only [Au.val] at *
 go_enter Try.func41,Try.ntmps41
 go_wp2_with fail
 refine HA.out.mono ?_
 intro e w1 hs
 rcases hs.no1 with ⟨rfl,S,hb⟩ | ⟨rfl,S,hb⟩
 · go_wp2
   go_ret
   exact Tells.no (fun h => S.out h.ha) ((Below.new _ _).trans (hb.mono (by simp)))
 have q0 : w1.cell? ⟨w.heap.size,0,none⟩ = some (.slice A1 al.length c1) := old_cell hb (new_cell w _ [_,_,_,_] _ 0 rfl) (by simp)
 have BW : Hid (Below w.heap.size w w1) := (Below.new _ _).trans (hb.mono (by simp))
 clear hb
 by_cases h1 : class_ < 1
 · go_wp2
   go_ret
   exact Tells.no (fun h => by have := h.c1; omega) BW.out
 by_cases h4 : 4 < class_
 · go_wp2
   go_ret
   exact Tells.no (fun h => by have := h.c4; omega) BW.out
 have H14 := Lib.hid (show 1 ≤ class_ ∧ class_ ≤ 4 from ⟨by omega,by omega⟩)
 by_cases hl : al.length = 0
 · have hl' : ((al.length : Int) == 0) = true := by simp; exact List.eq_nil_of_length_eq_zero hl
   have HAL := Lib.hid (List.eq_nil_of_length_eq_zero hl)
   clear hl
   go_wp2
   all_goals go_ret
   all_goals exact ⟨_,rfl,by simp; exact ⟨S.out,H14.out.1,H14.out.2,fun x hx => by rw [HAL.out] at hx; cases hx⟩,BW.out⟩
 · have hl' : ((al.length : Int) == 0) = false := by simp; exact fun h => hl (by rw [h]; rfl)
   have hl2 : 0 < al.length := by omega
   obtain ⟨b,off,x,hA1,hb1,hx,hc⟩ := IntsAt.at (HP.out.al.below IntE.stays BW.out) (k := al.length - 1) (by simp only; omega)
   simp only at hA1
   subst hA1
   have LAST := Lib.hid (show (∀ y,y ∈ al → y < (nev : Int)) ↔ x < nev from ⟨fun h => h x (List.mem_of_getElem? hx),fun h y hy => by
    obtain ⟨j,hj,rfl⟩ := List.mem_iff_getElem.1 hy
    by_cases e : j = al.length - 1
    · have : al[j]? = some x := by rw [e]; exact hx
      rw [List.getElem?_eq_getElem hj] at this; cases this; exact h
    · have := S.out.al.incr j (al.length - 1) al[j] x (by omega) (List.getElem?_eq_getElem hj) hx
      omega⟩)
   clear hl hx
   go_wp2
   all_goals go_ret
   all_goals refine ⟨_,rfl,?_,BW.out⟩
   all_goals rw [decide_eq_true_eq]
   all_goals exact ⟨fun h => ⟨S.out,H14.out.1,H14.out.2,LAST.out.2 h⟩,fun h => LAST.out.1 h.hev⟩

set_option maxHeartbeats 400000 in
theorem key_c (f s : Int) (b : Bool) (w : World) :
 Calls Try.prog 42 #[.int .i64 f,.int .i64 s,.bool b] w fun e w' => e = .returned (.agg #[.int .i64 f,.int .i64 s,.int .i64 (if b then 1 else 0)]) ∧ Below w.heap.size w w' := by
 cases b with
 | true =>
   go_enter Try.func42,Try.ntmps42
   go_wp2
   exact bodyPost_ret (v := .agg #[.int .i64 f,.int .i64 s,.int .i64 1]) (by simp [results,Try.results42,go_sem]) rfl ⟨by simp,Below.new _ _⟩
 | false =>
   go_enter Try.func42,Try.ntmps42
   go_wp2
   exact bodyPost_ret (v := .agg #[.int .i64 f,.int .i64 s,.int .i64 0]) (by simp [results,Try.results42,go_sem]) rfl ⟨by simp,Below.new _ _⟩
end Go.Proofs.Ytccfcaejlohahaa
