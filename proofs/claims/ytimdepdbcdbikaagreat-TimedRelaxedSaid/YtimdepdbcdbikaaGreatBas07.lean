/-
  reach: sets of states, flags; the states from which marked ones are reached.
  A range over a function, with memory told by Sep: the loop's own two blocks are things among the others.
  reach: the edges of a state, one after another.
  Ranges over a function within a loop: the marks among the deferred calls; a round's region walked as everywhere.
  Words for memory: maps whose entries bear their stamps in order; entries that are laid first and filled later.
  Plain: a search backwards, breadth first, finds least numbers of events.
-/
import Derived.Test.YtimdepdbcdbikaaGreatBas01
import Derived.Test.YtimdepdbcdbikaaGreatBas06
import Derived.Test.YtimdepdbcdbikaaGreatBas03
import Derived.RangeFuncWrites
import Derived.RangeFuncCalls
import Derived.RangeFuncLeaves
import Derived.RegionTactic
import Derived.OrdersIn
import Derived.Deep.RegionHeld
import Derived.Test.YtimdepdbcdbikaaGreatBas04
import Derived.OwnWalkIn
import Derived.TacticsInMore
import Derived.LoopNIn
import Derived.LoopIn
import Derived.BigRegionIn
import Derived.Sort.CutIn
import Derived.Sort.QuietIn
import Derived.WideKeyEntry
set_option linter.unusedSimpArgs false
set_option linter.unusedVariables false
namespace Go.Proofs.YtimdepdbcdbikaaGreat
open Go.RowKit
set_option maxRecDepth 100000
set_option maxHeartbeats 400000 in
theorem checkSetR_c (A : Option Addr) (c : Nat) (l : List Int) (n : Int) (w : World) (h : IntsAt w A l) (hl : l.length ≤ maxLen) :
 Calls Tryz.prog 73 #[.slice A l.length c,.int .i64 n] w (Errs (setOk l n l.length) w) := by
 unfold maxLen at hl
 go_enter Tryz.func73,Tryz.ntmps73
 go_wp2
 go_loop [5,6,9] (fun a b i => ∃ k : Nat,k ≤ l.length ∧ i = .int .i64 k ∧ Hid (setOk l n k)) (fun _ _ i => l.length - (intOf i).toNat)
 case atStart => exact ⟨0,by omega,rfl,fun i x h => absurd h (by omega)⟩
 case round =>
  obtain ⟨k,hk,rfl,hrel⟩ := hrel
  by_cases hlt : k < l.length
  · obtain ⟨b,off,x,rfl,_,hx,hcx⟩ := IntsAt.at h hlt
    by_cases hk0 : k = 0
    · subst hk0
      rw [Nat.add_zero] at hcx
      go_wp2
      any_goals (go_ret; exact Errs.no (setOk.not1 hx hlt (by omega)) (by decide) rfl)
      go_round
      case rel => exact ⟨1,by omega,by go_num,hrel.out.step hx (by omega) (by omega) (fun y h => absurd h (by omega))⟩
      case measure => simp [intOf]; omega
    · obtain ⟨y,hy,hcy⟩ := IntsAt.more h (k := k - 1) (by omega)
      go_wp2
      any_goals (go_ret; first | exact Errs.no (setOk.not1 hx hlt (by omega)) (by decide) rfl | exact Errs.no (setOk.not2 hx hlt (by omega) hy (by omega)) (by decide) rfl)
      go_round
      case rel => exact ⟨k+1,by omega,by go_num,hrel.out.step hx (by omega) (by omega) (fun z h hz => by rw [hy] at hz; cases hz; omega)⟩
      case measure => simp [intOf]; omega
  · obtain rfl : k = l.length := by omega
    go_wp2
    go_ret
    exact Errs.yes hrel.out rfl

set_option maxHeartbeats 1000000 in
theorem checkStates_c (a : Au) (p : AuP) (A : Option Addr) (c : Nat) (l : List Int) (w : World) (h : IntsAt w A l) (hl : l.length ≤ maxLen) :
 Calls Tryz.prog 104 #[a.val p,.slice A l.length c] w (ErrsB (setOk l a.n l.length) w) := by
 obtain ⟨al,n,mr,ed⟩ := a
 obtain ⟨A1,c1,A2,c2,A3,c3⟩ := p
 dsimp only [Au.val]
 have H := Lib.hid h
 clear h
 go_enter Tryz.func104,Tryz.ntmps104
 go_wp2_with fail
 refine calls_world (fun W => Below w.heap.size w W) (Below.new w _) fun W hb => ?_
 refine (checkSetR_c A c l n W (H.out.below IntE.stays hb) hl).mono ?_
 rintro e w' ⟨r,rfl,hr,rfl⟩
 go_wp2_with fail
 go_ret
 exact ⟨r,rfl,hr,hb⟩
set_option maxHeartbeats 1000000 in
theorem flags_c (a : Au) (p : AuP) (A : Option Addr) (c : Nat) (l : List Int) (w : World) (hr : ∀ x,x ∈ l → 0 ≤ x ∧ x < a.n) (h0 : 0 ≤ a.n) (hn : a.n ≤ 4096) (hA : IntsAt w A l) (hml : l.length ≤ 140737488355328) :
 Calls Tryz.prog 105 #[a.val p,.slice A l.length c] w (GivesB a.n.toNat (fun s => decide ((s : Int) ∈ l)) w) := by
 obtain ⟨al,n,mr,ed⟩ := a
 obtain ⟨A1,c1,A2,c2,A3,c3⟩ := p
 obtain ⟨N,rfl⟩ := Int.eq_ofNat_of_zero_le h0
 have HR := Lib.hid hr
 have HA := Lib.hid hA
 dsimp only [Au.val] at HR hn h0 ⊢
 have hmk := make_run (P := Tryz.prog) 133 4 (.bool false) 1 Tryz.underlying133 boolInfo rfl N (by omega) (by omega)
 clear hr hA h0
 rw [Int.toNat_natCast]
 go_enter Tryz.func105,Tryz.ntmps105
 go_wp2_with fail
 refine wp_world (fun W => Sep w.heap.size w [eBlk (w.heap.size + 1) 4 (mkB N fun s => decide ((s : Int) ∈ l.take 0))] W) ?_ fun W S0 => ?_
 · have e : (fun s : Nat => decide ((s : Int) ∈ l.take 0)) = fun _ => false := by funext s; simp
   rw [e,← mkB_rep]
   exact (((Sep.here w).alloc 34 [_,_,_,_]).alloc' _ _ rfl (by simp)).first
 clear hmk
 go_loopw [13] (fun i wr => ∃ k : Nat,i = .int .i64 k ∧ k ≤ l.length ∧ Hid (Sep w.heap.size w [eBlk (w.heap.size + 1) 4 (mkB N fun s => decide ((s : Int) ∈ l.take k))] wr)) (fun i _ => l.length - (intOf i).toNat)
 case atStart => exact ⟨0,rfl,Nat.zero_le _,S0⟩
 case round =>
  clear S0
  obtain ⟨k,rfl,hk,S⟩ := hrel
  by_cases hlt : k < l.length
  · obtain ⟨b,off,x,hAe,hb,hx,c0⟩ := IntsAt.at (HA.out.below IntE.stays S.out.below) hlt
    have hxr := HR.out x (List.mem_of_getElem? hx)
    obtain ⟨m,rfl⟩ := Int.eq_ofNat_of_zero_le hxr.1
    have c1 : wr.cell? ⟨w.heap.size + 1,m,none⟩ = some (.bool _) := (BlkAt.cell (S.out.get 0 rfl) m).trans (mkB_get (by omega))
    have f1 : wr.frozen? ⟨w.heap.size + 1,m,none⟩ = false := BlkAt.free (S.out.get 0 rfl) m
    have S2 : Hid (Sep w.heap.size w [eBlk (w.heap.size + 1) 4 (mkB N fun s => decide ((s : Int) ∈ l.take (k + 1)))] (wr.setCell ⟨w.heap.size + 1,m,none⟩ (.bool true))) := by
     have h := S.out.set 0 rfl m (.bool true)
     rw [mkB_set] at h
     have e : (mkB N fun t => decide (t = m) || decide ((t : Int) ∈ l.take k)) = mkB N fun s => decide ((s : Int) ∈ l.take (k + 1)) := mkB_congr fun s _ => by
      rcases take_mem hx s with g | g
      · rw [← g,Int.toNat_natCast]
      · omega
     rw [e] at h
     exact h
    rw [hAe]
    clear hx S
    go_wp2_with fail
    go_roundw
    case rel => exact ⟨k + 1,by go_num,by omega,S2.out⟩
    case measure => simp [intOf]; omega
  · obtain rfl : k = l.length := by omega
    have S3 : Hid (Sep w.heap.size w [eBlk (w.heap.size + 1) 4 (mkB N fun s => decide ((s : Int) ∈ l))] wr) := by have h := S.out; rw [List.take_length] at h; exact h
    go_wp2_with fail
    go_ret
    exact ⟨_,rfl,S3.out⟩

def coV (d : Nat → Int) (k : Nat) : List Int := ((List.range k).filter fun s => decide (0 ≤ d s)).map fun s : Nat => (s : Int)
theorem coV_yes {d : Nat → Int} {k : Nat} (h : 0 ≤ d k) : coV d (k + 1) = coV d k ++ [(k : Int)] := by simp [coV,List.range_succ,List.filter_append,h]
theorem coV_no {d : Nat → Int} {k : Nat} (h : ¬ 0 ≤ d k) : coV d (k + 1) = coV d k := by simp [coV,List.range_succ,List.filter_append,h]
theorem coV_len (d : Nat → Int) (k : Nat) : (coV d k).length ≤ k := by
 have := List.length_filter_le (fun s => decide (0 ≤ d s)) (List.range k)
 simpa [coV] using this
def GivesKp (a : Au) (w : World) (e : Ending) (w' : World) : Prop := ∃ (d : Nat → Int) (A : Option Addr) (c : Nat),e = .returned (.tuple #[.slice A (coV d a.n.toNat).length c,.int .i64 0]) ∧ Hid (Sep w.heap.size w [eInts (coV d a.n.toNat) (.slice A (coV d a.n.toNat).length c)] w') ∧ Hid (∀ s : Nat,s < a.n.toNat → (0 ≤ d s ↔ ∃ u,runV a.ed s u ∈ a.mr))
set_option maxHeartbeats 4000000 in
theorem coreachable_c (a : Au) (p : AuP) (w : World) (hr : a.Right) (hA : Au.At w a p) :
 Calls Tryz.prog 81 #[a.val p] w (GivesKp a w) := by
 have h0 := hr.n0
 have hn := hr.n1
 have HR := Lib.hid hr
 have HA := Lib.hid hA
 have HND : Hid (a.mr.Nodup) := incr_nodup hr.mr.incr
 have HRG : Hid (∀ v,v ∈ a.mr → 0 ≤ v ∧ v < a.n) := fun v hv => hr.mem hv
 obtain ⟨al,n,mr,ed⟩ := a
 obtain ⟨A1,c1,A2,c2,A3,c3⟩ := p
 obtain ⟨N,rfl⟩ := Int.eq_ofNat_of_zero_le h0
 dsimp only [Au.val] at HND HRG hn ⊢
 clear hr hA h0
 go_enter Tryz.func81,Tryz.ntmps81
 go_wp2_with fail
 refine calls_world (fun W => Sep w.heap.size w [eBlk w.heap.size 34 [.slice A1 al.length c1,.int .i64 (N : Int),.slice A2 mr.length c2,.slice A3 ed.length c3]] W) ?_ fun W S => ?_
 · exact (Sep.here w).alloc' _ [_,_,_,_] rfl rfl
 refine (Check_c ⟨al,N,mr,ed⟩ ⟨A1,c1,A2,c2,A3,c3⟩ W (HA.out.below S.below)).mono ?_
 intro e w1 hs
 rcases hs.two with ⟨r,rfl,hr,_,HN,_⟩ | ⟨rfl,_,hb⟩
 · exact absurd HR.out HN.out
 clear hs
 have S0 := Lib.hid (S.next hb)
 clear S hb
 go_wp2_with fail
 refine wp_world (fun W => Sep w.heap.size w [eBlk w.heap.size 34 [.slice A1 al.length c1,.int .i64 (N : Int),.slice A2 mr.length c2,.slice A3 ed.length c3]] W) S0.out fun W2 S => ?_
 have S0 := Lib.hid S
 clear S
 have S1 := Lib.hid S0.out.drew
 refine wp_region_held_drew (S := (fun V => Sep w.heap.size w [eBlk w.heap.size 34 [.slice A1 al.length c1,.int .i64 (N : Int),.slice A2 mr.length c2,.slice A3 ed.length c3]] V)) (by kernel_rfl) ?_ (fun hHeld => ?_)
 · exact S1.out.pick [0] (by decide)
 generalize hwz : W2.drew = w1 at *
 clear hwz
 refine tkH 0 rfl (v := ?_) (by kernel_rfl) ?_ hHeld ?_
 rotate_left
 · intro V hSw
   have b0 := qkC hSw 0 rfl 0 rfl
   have b1 := qkC hSw 0 rfl 1 rfl
   have b2 := qkC hSw 0 rfl 2 rfl
   have b3 := qkC hSw 0 rfl 3 rfl
   clear hSw
   first | (go_simp; done) | (go_simp; with_reducible rfl)
 try simp only [sx]
 refine tkP 2 rfl hHeld ?_
 try simp only [sx]
 refine tkH 3 rfl (v := ?_) (by kernel_rfl) ?_ hHeld ?_
 rotate_left
 · intro V hSw
   have b0 := qkC hSw 0 rfl 0 rfl
   have b1 := qkC hSw 0 rfl 1 rfl
   have b2 := qkC hSw 0 rfl 2 rfl
   have b3 := qkC hSw 0 rfl 3 rfl
   clear hSw
   first | (go_simp; done) | (go_simp; with_reducible rfl)
 try simp only [sx]
 refine tkP 6 rfl hHeld ?_
 try simp only [sx]
 refine rdH 1 rfl fun K hK => ?_
 go_simp
 refine (newGraph_c ⟨al,N,mr,ed⟩ ⟨A1,c1,A2,c2,A3,c3⟩ w1 HR.out (HA.out.below S1.out.below)).mono ?_
 rintro e w2 ⟨g0,rfl,T⟩
 have S2 := qkN S1.out T.out
 clear T
 refine hK.out _ _ ?_ (fun hHeld => ?_)
 · exact S2.out.pick [1] (by decide)
 clear hK K
 try simp only [sx]
 refine rdH 4 rfl fun K hK => ?_
 go_simp
 refine (backward_c ⟨al,N,mr,ed⟩ ⟨A1,c1,A2,c2,A3,c3⟩ g0 A2 c2 mr w2 HR.out (HA.out.below S2.out.below) (HA.out.below S2.out.below).mr HND.out HRG.out).mono ?_
 rintro e w3 ⟨gd,d,rfl,T,HD⟩
 have S3 := qkN S2.out T.out
 clear T
 refine hK.out _ _ ?_ (fun hHeld => ?_)
 · exact S3.out.pick [2] (by decide)
 clear hK K
 try simp only [sx]
 refine tkP 5 rfl hHeld ?_
 try simp only [sx]
 refine wpAnyH_done (by kernel_rfl) ?_ _
 have SL : Hid (Sep w.heap.size w [eBlk gd 3 (mkI N d)] w3) := S3.out.pick [0] (by decide)
 dsimp only [Int.toNat_natCast]
 have hwz : (N : Int).toNat = N := rfl
 go_wp2_with fail
 go_loopw [5,19] (fun v5 i wr => ∃ (k : Nat) (A' : Option Addr) (c' : Nat),v5 = .slice A' (coV d k).length c' ∧ i = .int .i64 k ∧ k ≤ N ∧ Hid (Sep w.heap.size w [eInts (coV d k) (.slice A' (coV d k).length c'),eBlk gd 3 (mkI N d)] wr)) (fun _ i _ => N - (intOf i).toNat)
 case atStart => exact ⟨0,none,0,rfl,rfl,Nat.zero_le _,SL.out.nilOwn encI 1 3⟩
 case round =>
  clear SL
  obtain ⟨k,A',c',rfl,rfl,hk,S⟩ := hrel
  by_cases hlt : k < N
  · have oc := (BlkAt.cell (S.out.get 1 rfl) k).trans (mkI_get hlt)
    by_cases hge : 0 ≤ d k
    · have hll := coV_len d k
      have HV : Hid (coV d (k + 1) = coV d k ++ [(k : Int)]) := coV_yes hge
      go_wp2_with (at_builtin; refine wpList_pushS (enc := encI) (k := 1) rfl _ _ 31 rfl (S.out.alloc 3 [.int .i64 (k : Int)]) 1 rfl Tryz.underlying31 _ 8 intInfo rfl (by decide) rfl (k : Int) _ rfl rfl (one_cell _ _ [_] _ rfl) (encI_one _) (by omega) (by decide) ?_)
      intro A2' c2' w3 S3 _
      have S4 : Hid (Sep w.heap.size w [eInts (coV d k ++ [(k : Int)]) (.slice A2' ((coV d k).length + 1) c2'),eBlk gd 3 (mkI N d)] w3) := S3.drop1
      clear S3 S oc
      go_wp2_with fail
      go_roundw
      case rel => exact ⟨k + 1,A2',c2',by rw [HV.out,List.length_append]; rfl,by go_num,by omega,by rw [HV.out,List.length_append]; exact S4.out⟩
      case measure => simp [intOf]; omega
    · have HV : Hid (coV d (k + 1) = coV d k) := coV_no hge
      have hdf : decide (0 ≤ d k) = false := by simpa using hge
      go_wp2_with fail
      go_roundw
      case rel => exact ⟨k + 1,A',c',by rw [HV.out],by go_num,by omega,by rw [HV.out]; exact S.out⟩
      case measure => simp [intOf]; omega
  · obtain rfl : k = N := by omega
    go_wp2_with fail
    go_ret2
    exact ⟨d,A',c',rfl,S.out.pick [0] (by decide),HD.out⟩
def eObj (g : Nat) (o : Obj) : Ent where
 foot := [g]
 ok w := w.heap[g]? = some o
 lt w h k hk := by simp at hk; subst hk; exact (Array.getElem?_eq_some_iff.1 h).1
 turn w w' h hg := (hg g (by simp)).trans h
theorem Off.put (w : World) (g : Nat) (o : Obj) : Off [g] w (w.putObj g o) :=
 ⟨rfl,rfl,rfl,by simp,fun k _ hk => World.putObj_heap_other (fun e => hk (by simp [e]))⟩
theorem Sep.put {n : Nat} {w0 w : World} {es : List Ent} (S : Sep n w0 es w) (i : Nat) {g : Nat} {o : Obj} (hi : es[i]? = some (eObj g o)) (o' : Obj) : Sep n w0 (es.set i (eObj g o')) (w.putObj g o') :=
 S.chg i hi _ (Off.put w g o') (World.putObj_heap_same ((eObj g o).lt w (S.get i hi) g (by simp [eObj]))) (fun g hg => .inl hg)
theorem Sep.obj {n : Nat} {w0 w : World} {es : List Ent} (S : Sep n w0 es w) (o : Obj) : Sep n w0 (eObj w.heap.size o :: es) (w.alloc o) :=
 S.new1 (Below.new w o) (eObj w.heap.size o) (World.alloc_heap_new w o) (by simp [eObj])
theorem mid_get {α : Type} (l r : List α) (x : α) : (l ++ x :: r)[l.length]? = some x := by simp
theorem mid_set {α : Type} (l r : List α) (x y : α) : (l ++ x :: r).set l.length y = l ++ y :: r := by simp

def sepPost {α : Type} (n0 : Nat) (w0 : World) (T : α → List Ent) (eL eD : Ent) (R : Nat → List Ent → Prop) (Rx : Code → List Ent → Prop) (k : Nat) (x : α) : Exit → Act → World → Prop
 | .normal,_,W => ∃ es,R (k + 1) es ∧ Sep n0 w0 (T x ++ eL :: eD :: es) W
 | .ret,_,W => ∃ es,Rx .ret es ∧ Sep n0 w0 (T x ++ eL :: eD :: es) W
 | .exit id,_,W => ∃ es,Rx (.exit id) es ∧ Sep n0 w0 (T x ++ eL :: eD :: es) W
 | .goto t,_,W => ∃ es,Rx (.goto t) es ∧ Sep n0 w0 (T x ++ eL :: eD :: es) W
 | .panic _,_,_ => False
 | .outgrown,_,_ => False
def IterS {α : Type} (P : Program) (m : Nat) (gf : Nat) (lb : Array Value) (encs : α → Array Value) (T : α → List Ent) (X : Nat → α → Prop) (Dn Bd : Nat → Prop) (need : List Ent) (n0 : Nat) (w0 w : World) : Prop :=
 ∀ (l : Nat) (R : Nat → List Ent → Prop) (Rx : List Ent → Prop) (es : List Ent) (W : World),Below w.heap.size w W → Sep n0 w0 es W → R 0 es → (∀ k es,R k es → Bd k ∧ ∀ e,e ∈ need → e ∈ es) →
  (∀ (k : Nat) (x : α) (es1 : List Ent) (W1 : World),X k x → R k es1 → Sep n0 w0 (T x ++ es1) W1 → YieldAt Fence.wide (m - 1) P l (encs x) W1 fun e W' =>
    (e = .returned (.bool true) ∧ ∃ es',R (k + 1) es' ∧ Sep n0 w0 (T x ++ es') W') ∨ (e = .returned (.bool false) ∧ ∃ es',Rx es' ∧ Sep n0 w0 (T x ++ es') W')) →
  CallsIn Fence.wide m P gf (#[.func (.yield l) #[] #[]] ++ lb) W fun e W' => (∃ v,e = .returned v) ∧ ((∃ k es',Dn k ∧ R k es' ∧ Sep n0 w0 es' W') ∨ (∃ es',Rx es' ∧ Sep n0 w0 es' W'))

theorem wp_rangeFunc_sep {P : Program} {α : Type} {g : Operand} {ps : Array Tmp} {assign body : Code} {Q : Exit → Act → World → Prop} {a : Act} {w : World} {n0 : Nat} {w0 : World} {es : List Ent}
 {gf : Nat} {lb : Array Value} (hg : a.eval g = .func (.func gf) #[] lb) (eg : ∀ args w,(callFunc gf args).run P w = .ok (.enter gf args) w)
 {encs : α → Array Value} {T : α → List Ent} {X : Nat → α → Prop} {Dn Bd : Nat → Prop} {need : List Ent} (m : Nat) (hseq : IterS P (m + 1) gf lb encs T X Dn Bd need n0 w0 w) (hps : ∀ x,(encs x).size = ps.size)
 (R : Nat → List Ent → Prop) (Rx : Code → List Ent → Prop) (S : Sep n0 w0 es w) (h0 : R 0 es) (hbd : ∀ k es,R k es → Bd k ∧ ∀ e,e ∈ need → e ∈ es) (Ax : Nat → α → List Ent → Act → Prop)
 (hassign : ∀ (l : Nat) (eL eD : Ent) (k : Nat) (x : α) (es1 : List Ent) (W : World) (K : Act → World → Prop),X k x → R k es1 → Sep n0 w0 (T x ++ eL :: eD :: es1) W →
   (∀ (a' : Act) (es2 : List Ent) (W' : World),Ax k x es2 a' → Sep n0 w0 (T x ++ eL :: eD :: es2) W' → K a' W') →
   assign.wpIn (Fence.wide.inRound l) m P (Exit.then K (fun _ _ _ => False)) { tmps := (ps.zip (encs x)).foldl (fun t (p,v) => t.setIfInBounds p v) a.tmps,defers := [] } W)
 (hbody : ∀ (l : Nat) (eL eD : Ent) (k : Nat) (x : α) (es2 : List Ent) (a' : Act) (W : World),X k x → Ax k x es2 a' → Sep n0 w0 (T x ++ eL :: eD :: es2) W →
   body.wpIn (Fence.wide.inRound l) m P (sepPost n0 w0 T eL eD R Rx k x) a' W)
 (hdone : ∀ (D k : Nat) (es1 : List Ent) (W : World),Dn k → R k es1 → Sep n0 w0 (eObj D (.deferred (some [])) :: es1) W → Q .normal { a with defers := { target := .collected D,args := #[] } :: a.defers } W)
 (hstop : ∀ (D : Nat) (c : Code) (es1 : List Ent) (W : World),Rx c es1 → Sep n0 w0 (eObj D (.deferred (some [])) :: es1) W → c.wp P Q { a with defers := { target := .collected D,args := #[] } :: a.defers } W) :
 (Code.rangeFunc g ps assign body).wp P Q a w := by
 rw [← wpIn_wide (n := m + 2)]
 refine wpIn_rangeFunc ?_
 intro fn hfn
 obtain ⟨rec,hrec⟩ : ∃ rec : LoopState → Option Code → Loop,rec = fun st pe => { state := st,pending := pe,fn,tmps := a.tmps,params := ps,assign,body,defers := w.heap.size } := ⟨_,rfl⟩
 obtain ⟨W1,hW1⟩ : ∃ W1,(w.alloc (.deferred (some []))).alloc (.loop (rec .ready none)) = W1 := ⟨_,rfl⟩
 have S1 : Sep n0 w0 (eObj (w.heap.size + 1) (.loop (rec .ready none)) :: eObj w.heap.size (.deferred (some [])) :: es) W1 := by
  rw [← hW1]
  have h := (S.obj (.deferred (some []))).obj (.loop (rec .ready none))
  rw [World.size_alloc] at h
  exact h
 have hb1 : Below w.heap.size w W1 := by
  rw [← hW1]; exact ((Below.refl _ w).alloc (Nat.le_refl _) _).alloc (by simp) _
 refine ⟨w.heap.size + 1,[{ target := .collected w.heap.size,args := #[] }],W1,{ target := .fn (.func gf) lb,args := #[.func (.yield (w.heap.size + 1)) #[] #[]] },W1,gf,
  #[.func (.yield (w.heap.size + 1)) #[] #[]] ++ lb,W1,?_,?_,?_,?_,fun _ => by omega,?_⟩
 · rw [← hW1,hrec]; exact run_enterLoop_outer _ _ _ _ _
 · simp only [resolve,hg]
   simp [go_sem]
 · intro f' _; trivial
 · simp [invoke,go_sem,eg]
 · refine (hseq (w.heap.size + 1)
    (fun k es' => ∃ es1,es' = eObj (w.heap.size + 1) (.loop (rec .ready none)) :: eObj w.heap.size (.deferred (some [])) :: es1 ∧ R k es1)
    (fun es' => ∃ c es1,es' = eObj (w.heap.size + 1) (.loop (rec .done (some c))) :: eObj w.heap.size (.deferred (some [])) :: es1 ∧ Rx c es1)
    _ W1 hb1 S1 ⟨es,rfl,h0⟩ (fun k es' ⟨es1,he,hr⟩ => ⟨(hbd k es1 hr).1,fun e hm => by rw [he]; exact List.mem_cons_of_mem _ (List.mem_cons_of_mem _ ((hbd k es1 hr).2 e hm))⟩) ?_).mono ?_
   · rintro k x es' W hx ⟨es1,rfl,hr⟩ SW
     have hl : W.heap[w.heap.size + 1]? = some (.loop (rec .ready none)) := SW.get (T x).length (mid_get _ _ _)
     have hy := run_yield (P := P) (args := encs x) hl (by rw [hrec]; exact hps x)
     rw [hrec] at hy
     refine ⟨fn,_,assign,body,hy,roundIn_of_wpIn hfn (hassign _ _ _ k x es1 W _ hx hr SW fun a' es2 W' hax SW' => ?_)⟩
     have hl' : W'.heap[w.heap.size + 1]? = some (.loop (rec .ready none)) := SW'.get (T x).length (mid_get _ _ _)
     refine ⟨_,run_beginRound hl' (by rw [hrec]),?_⟩
     have SB := SW'.put (T x).length (mid_get _ _ _) (.loop { rec .ready none with state := .busy })
     rw [mid_set] at SB
     refine wpIn_mono (hbody (w.heap.size + 1) _ _ k x es2 a' _ hx hax SB) ?_
     have fin : ∀ (jump : Option Code) (W3 : World) (es3 : List Ent),Sep n0 w0 (T x ++ eObj (w.heap.size + 1) (.loop { rec .ready none with state := .busy }) :: eObj w.heap.size (.deferred (some [])) :: es3) W3 →
      (Instr.endRound (w.heap.size + 1) jump).run P W3 = .ok (.bool jump.isNone) (W3.putObj (w.heap.size + 1) (.loop (rec (if jump.isNone then .ready else .done) jump))) ∧
      Sep n0 w0 (T x ++ eObj (w.heap.size + 1) (.loop (rec (if jump.isNone then .ready else .done) jump)) :: eObj w.heap.size (.deferred (some [])) :: es3) (W3.putObj (w.heap.size + 1) (.loop (rec (if jump.isNone then .ready else .done) jump))) := fun jump W3 es3 S3 => by
      have hl3 : W3.heap[w.heap.size + 1]? = some (.loop { rec .ready none with state := .busy }) := S3.get (T x).length (mid_get _ _ _)
      have h := run_endRound (P := P) jump hl3
      have S4 := S3.put (T x).length (mid_get _ _ _) (.loop (rec (if jump.isNone then .ready else .done) jump))
      rw [mid_set] at S4
      refine ⟨?_,S4⟩
      rw [hrec] at h ⊢
      exact h
     rintro e a3 W3 hp
     cases e with
     | normal =>
       obtain ⟨es3,hr3,S3⟩ := hp
       obtain ⟨h1,h2⟩ := fin none W3 es3 S3
       exact ⟨_,_,h1,.inl ⟨rfl,_,⟨es3,rfl,hr3⟩,h2⟩⟩
     | ret =>
       obtain ⟨es3,hr3,S3⟩ := hp
       obtain ⟨h1,h2⟩ := fin (some .ret) W3 es3 S3
       exact ⟨_,_,h1,.inr ⟨rfl,_,⟨.ret,es3,rfl,hr3⟩,h2⟩⟩
     | exit id =>
       obtain ⟨es3,hr3,S3⟩ := hp
       obtain ⟨h1,h2⟩ := fin (some (.exit id)) W3 es3 S3
       exact ⟨_,_,h1,.inr ⟨rfl,_,⟨.exit id,es3,rfl,hr3⟩,h2⟩⟩
     | goto t =>
       obtain ⟨es3,hr3,S3⟩ := hp
       obtain ⟨h1,h2⟩ := fin (some (.goto t)) W3 es3 S3
       exact ⟨_,_,h1,.inr ⟨rfl,_,⟨.goto t,es3,rfl,hr3⟩,h2⟩⟩
     | panic ch => exact hp.elim
     | outgrown => exact hp.elim
   · rintro e W2 ⟨⟨v,rfl⟩,(⟨k,es',hdn,⟨es1,rfl,hr⟩,S2⟩ | ⟨es',⟨c,es1,rfl,hr⟩,S2⟩)⟩
     · have hl : W2.heap[w.heap.size + 1]? = some (.loop (rec .ready none)) := S2.get 0 rfl
       exact ⟨none,_,by have := run_endLoop (P := P) hl (by rw [hrec]; simp); rw [hrec] at this; exact this,hdone _ k es1 _ hdn hr (S2.put 0 rfl _).drop1⟩
     · have hl : W2.heap[w.heap.size + 1]? = some (.loop (rec .done (some c))) := S2.get 0 rfl
       exact ⟨some c,_,by have := run_endLoop (P := P) hl (by rw [hrec]; simp); rw [hrec] at this; exact this,wpIn_wide.2 (hstop _ c es1 _ hr (S2.put 0 rfl _).drop1)⟩

theorem Oper.wp_round {P : Program} {o : Oper} {a : Act} {w : World} {next : Act → World → Prop} {Q : Exit → Act → World → Prop} {l m : Nat} (hd : ∀ c,o.op ≠ .defer c) (h : Oper.wp P o a w next Q) : Oper.wpIn (Fence.wide.inRound l) m P o a w next Q := by
 refine ⟨fun _ _ => trivial,?_⟩
 unfold Oper.wp at h
 rw [show (Fence.wide.inRound l).round = some l from rfl,Oper.semAt_eq (some l) a.eval o hd]
 generalize (execOp a.eval o).run P w = r at h ⊢
 match r,h with
 | .ok (.value v) w',h => exact h
 | .ok .skip w',h => exact h
 | .ok (.defer d) w',h => exact h
 | .ok (.enter f args) w',h => exact ⟨fun h => (by cases h),CallsIn.inRound l (callsIn_wide.2 h)⟩
 | .ok (.row row args) w',h => exact ⟨fun h => (by cases h),fun c cs _ => let ⟨v,w'',r,s⟩ := h c cs; ⟨v,w'',r,stepsIn_wide.2 s⟩⟩
 | .halt (.panic v) w',h => exact h
def noDefer (ops : Array Oper) : Bool := ops.toList.all fun o => match o.op with
 | .defer _ => false
 | _ => true
theorem noDefer_at {ops : Array Oper} (h : noDefer ops = true) {i : Nat} {o : Oper} (hi : ops[i]? = some o) : ∀ c,o.op ≠ .defer c := by
 intro c e
 have hm : o ∈ ops.toList := by
  obtain ⟨hlt,rfl⟩ := Array.getElem?_eq_some_iff.1 hi
  simp
 have := List.all_eq_true.1 h o hm
 rw [e] at this
 cases this
theorem wpOps_round {P : Program} {ops : Array Oper} {Q : Exit → Act → World → Prop} {l m : Nat} (hd : noDefer ops = true) (hQ : ∀ a w,¬ Q .outgrown a w) : ∀ (r : List Nat) (a : Act) (w : World),wpOps P ops Q r a w → wpOpsIn (Fence.wide.inRound l) m P ops Q r a w
 | [],a,w,h => h
 | i :: r,a,w,h => by
   unfold wpOps at h
   unfold wpOpsIn
   cases ho : ops[i]? with
   | none =>
     simp only [ho] at h ⊢
     exact wpOps_round hd hQ r a w h
   | some o =>
     simp only [ho] at h ⊢
     split
     · rename_i hw
       simp only [hw,if_true] at h
       exact Oper.wpIn_mono (fun a' w' h' => wpOps_round hd hQ r a' w' h') (Oper.wp_round (noDefer_at hd ho) (h.resolve_right fun ⟨_,a,w,h⟩ => hQ a w h))
     · rename_i hw
       simp only [hw] at h
       exact ⟨fun _ _ => trivial,wpOps_round hd hQ r _ w h⟩
theorem wpIn_region_plain {P : Program} {ops : Array Oper} {Q : Exit → Act → World → Prop} {id l m : Nat} {a : Act} {w : World} (hd : noDefer ops = true) (hQ : ∀ a w,¬ Q .outgrown a w) (h : wpOps P ops Q (List.range ops.size) a w) : (Code.region id ops false).wpIn (Fence.wide.inRound l) m P Q a w :=
 wpIn_region (wpOps_round hd hQ _ _ _ h)
section

def GivesSeq (a : Au) (p : AuP) (g0 s : Nat) (w : World) (e : Ending) (w' : World) : Prop := ∃ gb bs,e = .returned (.func (.func 117) #[] #[.pointer (some ⟨gb,0,none⟩),.pointer (some ⟨bs,0,none⟩)]) ∧ Hid (Sep w.heap.size w [eBlk bs 3 [.int .i64 (s : Int)],eBlk gb 140 (grCells a p g0)] w')
set_option maxHeartbeats 1000000 in
theorem edgesSeq_c (a : Au) (p : AuP) (g0 s : Nat) (w : World) :
 Calls Tryz.prog 100 #[.agg (grCells a p g0).toArray,.int .i64 (s : Int)] w (GivesSeq a p g0 s w) := by
 obtain ⟨al,n,mr,ed⟩ := a
 obtain ⟨A1,c1,A2,c2,A3,c3⟩ := p
 dsimp only [grCells]
 go_enter Tryz.func100,Tryz.ntmps100
 go_wp2_with fail
 go_ret
 refine ⟨w.heap.size,w.heap.size + 1,rfl,?_⟩
 exact ((Sep.here w).alloc' _ [_,_,_,_,_] rfl rfl).alloc' _ [_] rfl (by simp)

attribute [local go_sem] Oper.semAt_some
set_option maxHeartbeats 4000000 in
theorem edges_iter (a : Au) (p : AuP) (g0 gb bs s n0 m : Nat) (w0 w : World) (hr : a.Right) (hA : EdsAt w0 p.A3 a.ed) (hn0 : n0 = w0.heap.size) (hs : s < a.n.toNat) (hcap : a.ed.length ≤ p.c3) :
 IterS Tryz.prog (m + 1) 117 #[.pointer (some ⟨gb,0,none⟩),.pointer (some ⟨bs,0,none⟩)] (fun x : Ed => #[.agg x.cells.toArray]) (fun _ => []) (fun k x => (outOf a.ed s)[k]? = some x) (fun k => k = (outOf a.ed s).length) (fun _ => True)
  [eBlk bs 3 [.int .i64 (s : Int)],eBlk gb 140 (grCells a p g0),eBlk g0 3 (mkI (a.n.toNat + 1) fun j => (fstV a.ed j : Int))] n0 w0 w := by
 intro l R Rx es W hb S h0 hbd hround
 subst hn0
 have h00 := hr.n0
 have hn := hr.n1
 have HR := Lib.hid hr
 have HA := Lib.hid hA
 have hle := ed_len hr
 have HY := Lib.hid hround
 have HB := Lib.hid hbd
 have hmono := fstV_mono a.ed s
 have htop := fstV_le a.ed (s + 1)
 have hsz := outOf_size hr s
 obtain ⟨al,n,mr,ed⟩ := a
 obtain ⟨A1,c1,A2,c2,A3,c3⟩ := p
 obtain ⟨N,rfl⟩ := Int.eq_ofNat_of_zero_le h00
 dsimp only [grCells] at HY HB hn hle hmono htop hsz hcap hs ⊢
 rw [Int.toNat_natCast] at hs
 have hw2 : IntKind.i64.wrap ((s : Int) + 1) = (s : Int) + 1 := IntWalk.i64_in _ (by omega)
 have hw3 : ((s : Int) + 1).toNat = s + 1 := by omega
 have hp1 : (0 : Int) ≤ (s : Int) + 1 := by omega
 have hp2 : (s : Int) + 1 < (N : Int) + 1 := by omega
 have hp3 : (s : Int) < (N : Int) + 1 := by omega
 have hmem := (hbd 0 es h0).2
 have kb := BlkAt.cell (S.ok _ (hmem _ (List.mem_cons_self))) 0
 have kg3 := BlkAt.cell (S.ok _ (hmem _ (List.mem_cons_of_mem _ (List.mem_cons_self)))) 3
 have kg4 := BlkAt.cell (S.ok _ (hmem _ (List.mem_cons_of_mem _ (List.mem_cons_self)))) 4
 have kf0 := (BlkAt.cell (S.ok _ (hmem _ (List.mem_cons_of_mem _ (List.mem_cons_of_mem _ (List.mem_cons_self))))) s).trans (mkI_get (show s < N + 1 by omega))
 have kf1 := (BlkAt.cell (S.ok _ (hmem _ (List.mem_cons_of_mem _ (List.mem_cons_of_mem _ (List.mem_cons_self))))) (s + 1)).trans (mkI_get (show s + 1 < N + 1 by omega))
 simp only [grCells,List.getElem?_cons_succ,List.getElem?_cons_zero,Int.toNat_natCast] at kb kg3 kg4
 obtain ⟨f0,hf0⟩ : ∃ f0,f0 = fstV ed s := ⟨_,rfl⟩
 obtain ⟨f1,hf1⟩ : ∃ f1,f1 = fstV ed (s + 1) := ⟨_,rfl⟩
 rw [← hf0,← hf1] at hmono hsz
 rw [← hf0] at kf0
 rw [← hf1] at kf1 htop
 have HF : Hid (f0 = fstV ed s ∧ f1 = fstV ed (s + 1)) := ⟨hf0,hf1⟩
 clear hf0 hf1
 clear hr hA h00 hround hbd hmem
 refine callsIn_of_wp Tryz.func117 rfl trivial ?_ rfl
 simp only [Tryz.ntmps117,List.size_toArray,List.length_cons,List.length_nil,Nat.reduceAdd,Nat.reduceSub,Array.replicate_succ,Array.replicate_zero,List.push_toArray,List.append_toArray,List.nil_append,List.cons_append]
 gi_wp2
 by_cases hz : f0 < f1
 · obtain ⟨b,off,x,hAe,hb,_⟩ := EdsAt.at HA.out (show f0 < ed.length by omega)
   subst hAe
   refine wpIn_wide.2 ?_
   go_quiet (fail)
   have RK := Lib.hid h0
   have S1 : Hid (Sep w0.heap.size w0 es W) := S
   obtain ⟨M,hM⟩ : ∃ M,M = f1 - f0 := ⟨_,rfl⟩
   have HM := Lib.hid hM
   rw [← hM] at hsz ⊢
   have hMb : M ≤ 131072 := by omega
   clear hM h0 S kb kg3 kg4 kf0 kf1 hw2 hw3 hp1 hp2 hp3 hb
   gi_wp2
   gi_loopw [22] (fun i wr => ∃ (k : Nat) (es1 : List Ent),i = .int .i64 k ∧ k ≤ M ∧ Hid (R k es1) ∧ Hid (Sep w0.heap.size w0 es1 wr)) (fun i _ => M - (intOf i).toNat)
   case atStart => exact ⟨0,es,rfl,Nat.zero_le _,RK.out,S1.out.draws _⟩
   case round =>
    clear RK S1
    obtain ⟨k,es1,rfl,hk,RK,S⟩ := hrel
    by_cases hlt : k < M
    · have hkl : f0 + k < ed.length := by have := HM.out; omega
      obtain ⟨x,hx,y0,y1,y2⟩ := EdsAt.more (HA.out.below EdE.stays S.out.below) hkl
      rw [Nat.add_mul,← Nat.add_assoc] at y0 y1 y2
      have hxo : (outOf ed s)[k]? = some x := by
       have := outOf_at HR.out s k (by have h1 := HM.out; have h2 := HF.out; show k < fstV ed (s + 1) - fstV ed s; omega)
       have h2 := HF.out.1
       rw [this]
       show ed[fstV ed s + k]? = some x
       rw [← h2]; exact hx
      obtain ⟨fn,tmps,assign,body,hy,hR⟩ := HY.out k x es1 (wr.alloc (.cells #[.int .i64 x.src,.int .i64 x.ev,.int .i64 x.dst] 76)) hxo RK.out (S.out.next (Below.new wr _))
      have HRR := Lib.hid hR
      dsimp only [Ed.cells] at hy
      clear hx hxo hR S RK hkl
      gi_wp2
      refine HRR.out.mono ?_
      rintro e W3 (⟨rfl,es2,hr2,S2⟩ | ⟨rfl,es2,hr2,S2⟩)
      · have RK := Lib.hid hr2
        have S := Lib.hid S2
        clear hr2 S2 HRR hy y0 y1 y2
        gi_wp2
        go_roundw
        case rel => exact ⟨k + 1,es2,by go_num,by omega,RK.out,S.out⟩
        case measure => simp [intOf]; omega
      · have RK := Lib.hid hr2
        have S := Lib.hid S2
        clear hr2 S2 HRR hy y0 y1 y2
        gi_wp2
        refine bodyPost_ret (results_none rfl _ _ _) rfl ?_
        exact ⟨⟨_,rfl⟩,.inr ⟨es2,RK.out,S.out⟩⟩
    · obtain rfl : k = M := by omega
      gi_wp2
      go_end0
      exact ⟨⟨_,rfl⟩,.inl ⟨k,es1,hsz.symm,RK.out,S.out⟩⟩
 · obtain rfl : f0 = f1 := by omega
   have RK := Lib.hid h0
   have S1 : Hid (Sep w0.heap.size w0 es W) := S
   have HS : Hid (0 = (outOf ed s).length) := by unfold Hid; omega
   clear S h0
   cases A3 with
   | none =>
     refine wpIn_wide.2 ?_
     go_quiet (fail)
     clear kb kg3 kg4 kf0 kf1 hw2 hw3 hp1 hp2 hp3 hb
     gi_wp2
     gi_loopw [22] (fun i wr => i = .int .i64 0 ∧ Hid (Sep w0.heap.size w0 es wr)) (fun i _ => 0)
     case atStart => exact ⟨rfl,S1.out.draws _⟩
     case round =>
      clear S1
      obtain ⟨rfl,S⟩ := hrel
      gi_wp2
      go_end0
      exact ⟨⟨_,rfl⟩,.inl ⟨0,es,HS.out,RK.out,S.out⟩⟩
   | some A =>
     refine wpIn_wide.2 ?_
     go_quiet (fail)
     generalize (if c3 = f0 then some A else some (A.add (f0 * 3))) = AA
     clear kb kg3 kg4 kf0 kf1 hw2 hw3 hp1 hp2 hp3 hb
     gi_wp2
     gi_loopw [22] (fun i wr => i = .int .i64 0 ∧ Hid (Sep w0.heap.size w0 es wr)) (fun i _ => 0)
     case atStart => exact ⟨rfl,S1.out.draws _⟩
     case round =>
      clear S1
      obtain ⟨rfl,S⟩ := hrel
      gi_wp2
      go_end0
      exact ⟨⟨_,rfl⟩,.inl ⟨0,es,HS.out,RK.out,S.out⟩⟩
end
def mkD (D : Nat) : Deferred := { target := .collected D,args := #[] }
abbrev eMk (D : Nat) : Ent := eObj D (.deferred (some []))
def mksD (Ds : List Nat) : List Deferred := Ds.map mkD
def mksE (Ds : List Nat) : List Ent := Ds.map eMk
theorem Sep.perm {n : Nat} {w0 w : World} {es es' : List Ent} (S : Sep n w0 es w) (h : es.Perm es') : Sep n w0 es' w :=
 ⟨S.fro,fun e he => S.ok e (h.mem_iff.2 he),fun e he => S.ge e (h.mem_iff.2 he),(h.pairwise_iff (fun {a b} hab g h1 h2 => hab g h2 h1)).1 S.ap⟩
theorem Sep.marked {n D : Nat} {w0 w : World} {A : List Ent} {Ds : List Nat} (S : Sep n w0 (eObj D (.deferred (some [])) :: (A ++ mksE Ds)) w) : Sep n w0 (A ++ mksE (D :: Ds)) w := S.perm List.perm_middle.symm
theorem Sep.front {n : Nat} {w0 w : World} {A : List Ent} {Ds : List Nat} (S : Sep n w0 (A ++ mksE Ds) w) : Sep n w0 (mksE Ds ++ A) w := S.perm List.perm_append_comm
def bodyPostR (P : Program) (fn : Func) (R : Ending → World → Prop) : Exit → Act → World → Prop
 | .normal,a,w | .ret,a,w => LeavesInM Fence.wide 1 P fn a.tmps R a.defers .returning w
 | _,_,_ => False
theorem leaves_marks {F : Fence} {n n0 : Nat} {P : Program} {fn : Func} {tmps : Array Value} {R : Ending → World → Prop} {w0 : World} {es : List Ent} (h : ∀ w',Sep n0 w0 es w' → ∃ v,(results fn tmps).run P w' = .ok v w' ∧ R (.returned v) w') :
 ∀ (Ds : List Nat) (w : World),Sep n0 w0 (mksE Ds ++ es) w → LeavesInM F n P fn tmps R (mksD Ds) .returning w
 | [],w,S => h w S
 | D :: Ds,w,S => by
   refine ⟨by simp,.inl ⟨D,_,rfl,run_takeDeferred (S.get 0 rfl),?_⟩⟩
   exact leaves_marks h Ds _ ((S.put 0 rfl (.deferred none)).drop1)
theorem ret_marks {n0 : Nat} {P : Program} {fn : Func} {tmps : Array Value} {R : Ending → World → Prop} {w0 w : World} {es : List Ent} (Ds : List Nat) (S : Sep n0 w0 (es ++ mksE Ds) w)
 (h : ∀ w',Sep n0 w0 es w' → ∃ v,(results fn tmps).run P w' = .ok v w' ∧ R (.returned v) w') : bodyPostR P fn R .ret { tmps := tmps,defers := mksD Ds } w := leaves_marks h Ds w S.front
theorem calls_marks {P : Program} {f : FuncId} {fn : Func} {c : Code} {args : Array Value} {w : World} {R : Ending → World → Prop} (hf : P.funcs[f]? = some fn) (hb : fn.body = some c)
 (h : c.wp P (bodyPostR P fn R) { tmps := args ++ Array.replicate (fn.ntmps - args.size) undef,defers := [] } w) : Calls P f args w R :=
 callsIn_wide.1 (callsIn_of_wp_marks (n := 1) hf hb trivial (wpIn_mono (wpIn_wide.2 h) fun e a w hq => by
  cases e with
  | normal => exact hq
  | ret => exact hq
  | exit id => exact hq.elim
  | goto l => exact hq.elim
  | panic ch => exact hq.elim
  | outgrown => exact hq.elim) rfl)
theorem wpIn_region_list {P : Program} {ops : Array Oper} {Q : Exit → Act → World → Prop} {id l m : Nat} {a : Act} {w : World} (hd : noDefer ops = true) (hQ : ∀ a w,¬ Q .outgrown a w) (h : wpList P ops Q ops.toList a w) : (Code.region id ops false).wpIn (Fence.wide.inRound l) m P Q a w :=
 wpIn_region_plain hd hQ (by rw [List.range_eq_range',← Array.length_toList,wpOps_eq_wpList ops.toList 0 (by simp)]; exact h)
theorem wp_rangeFunc_upd {P : Program} {α : Type} {g : Operand} {ps : Array Tmp} {assign body : Code} {Q : Exit → Act → World → Prop} {a : Act} {w : World} {n0 : Nat} {w0 : World} {es : List Ent}
 {gf : Nat} {lb : Array Value} (hg : a.eval g = .func (.func gf) #[] lb) (eg : ∀ args w,(callFunc gf args).run P w = .ok (.enter gf args) w)
 {encs : α → Array Value} {T : α → List Ent} {X : Nat → α → Prop} {Dn Bd : Nat → Prop} {need : List Ent} (m : Nat) (hseq : IterS P (m + 1) gf lb encs T X Dn Bd need n0 w0 w) (hps : ∀ x,(encs x).size = ps.size)
 (R : Nat → List Ent → Prop) (Rx : Code → List Ent → Prop) (S : Sep n0 w0 es w) (h0 : R 0 es) (hbd : ∀ k es,R k es → Bd k ∧ ∀ e,e ∈ need → e ∈ es) (upd : Act → α → Nat → Act) (Bx : α → Nat → List Ent)
 (hassign : ∀ (l : Nat) (eL eD : Ent) (k : Nat) (x : α) (es1 : List Ent) (W : World) (K : Act → World → Prop),X k x → R k es1 → Sep n0 w0 (T x ++ eL :: eD :: es1) W →
   (∀ (b : Nat) (W' : World),Sep n0 w0 (T x ++ eL :: eD :: (Bx x b ++ es1)) W' → K (upd a x b) W') →
   assign.wpIn (Fence.wide.inRound l) m P (Exit.then K (fun _ _ _ => False)) { tmps := (ps.zip (encs x)).foldl (fun t (p,v) => t.setIfInBounds p v) a.tmps,defers := [] } W)
 (hbody : ∀ (l : Nat) (eL eD : Ent) (k : Nat) (x : α) (es1 : List Ent) (b : Nat) (W : World),X k x → R k es1 → Sep n0 w0 (T x ++ eL :: eD :: (Bx x b ++ es1)) W →
   body.wpIn (Fence.wide.inRound l) m P (sepPost n0 w0 T eL eD R Rx k x) (upd a x b) W)
 (hdone : ∀ (D k : Nat) (es1 : List Ent) (W : World),Dn k → R k es1 → Sep n0 w0 (eObj D (.deferred (some [])) :: es1) W → Q .normal { a with defers := { target := .collected D,args := #[] } :: a.defers } W)
 (hstop : ∀ (D : Nat) (c : Code) (es1 : List Ent) (W : World),Rx c es1 → Sep n0 w0 (eObj D (.deferred (some [])) :: es1) W → c.wp P Q { a with defers := { target := .collected D,args := #[] } :: a.defers } W) :
 (Code.rangeFunc g ps assign body).wp P Q a w :=
 wp_rangeFunc_sep hg eg m hseq hps R Rx S h0 hbd (fun k x es2 a' => ∃ (b : Nat) (es1 : List Ent),es2 = Bx x b ++ es1 ∧ R k es1 ∧ a' = upd a x b)
  (fun l eL eD k x es1 W K hx hr hS hK => hassign l eL eD k x es1 W K hx hr hS fun b W' hS' => hK _ _ _ ⟨b,es1,rfl,hr,rfl⟩ hS')
  (fun l eL eD k x es2 a' W hx ⟨b,es1,e1,hr,e2⟩ hS => by subst e1; subst e2; exact hbody l eL eD k x es1 b W hx hr hS) hdone hstop
theorem wp_rangeFunc_upd1 {P : Program} {α : Type} {g : Operand} {p : Tmp} {assign body : Code} {Q : Exit → Act → World → Prop} {a : Act} {w : World} {n0 : Nat} {w0 : World} {es : List Ent}
 {gf : Nat} {lb : Array Value} (hg : a.eval g = .func (.func gf) #[] lb) (eg : ∀ args w,(callFunc gf args).run P w = .ok (.enter gf args) w)
 {enc : α → Value} {T : α → List Ent} {X : Nat → α → Prop} {Dn Bd : Nat → Prop} {need : List Ent} (m : Nat) (hseq : IterS P (m + 1) gf lb (fun x => #[enc x]) T X Dn Bd need n0 w0 w)
 (R : Nat → List Ent → Prop) (Rx : Code → List Ent → Prop) (S : Sep n0 w0 es w) (h0 : R 0 es) (hbd : ∀ k es,R k es → Bd k ∧ ∀ e,e ∈ need → e ∈ es) (upd : Act → α → Nat → Act) (Bx : α → Nat → List Ent)
 (hassign : ∀ (l : Nat) (eL eD : Ent) (k : Nat) (x : α) (es1 : List Ent) (W : World) (K : Act → World → Prop),X k x → R k es1 → Sep n0 w0 (T x ++ eL :: eD :: es1) W →
   (∀ (b : Nat) (W' : World),Sep n0 w0 (T x ++ eL :: eD :: (Bx x b ++ es1)) W' → K (upd a x b) W') →
   assign.wpIn (Fence.wide.inRound l) m P (Exit.then K (fun _ _ _ => False)) { tmps := a.tmps.setIfInBounds p (enc x),defers := [] } W)
 (hbody : ∀ (l : Nat) (eL eD : Ent) (k : Nat) (x : α) (es1 : List Ent) (b : Nat) (W : World),X k x → R k es1 → Sep n0 w0 (T x ++ eL :: eD :: (Bx x b ++ es1)) W →
   body.wpIn (Fence.wide.inRound l) m P (sepPost n0 w0 T eL eD R Rx k x) (upd a x b) W)
 (hdone : ∀ (D k : Nat) (es1 : List Ent) (W : World),Dn k → R k es1 → Sep n0 w0 (eObj D (.deferred (some [])) :: es1) W → Q .normal { a with defers := { target := .collected D,args := #[] } :: a.defers } W)
 (hstop : ∀ (D : Nat) (c : Code) (es1 : List Ent) (W : World),Rx c es1 → Sep n0 w0 (eObj D (.deferred (some [])) :: es1) W → c.wp P Q { a with defers := { target := .collected D,args := #[] } :: a.defers } W) :
 (Code.rangeFunc g #[p] assign body).wp P Q a w :=
 wp_rangeFunc_upd hg eg m hseq (fun _ => rfl) R Rx S h0 hbd upd Bx (fun l eL eD k x es1 W K hx hr hS hK => by
  have h := hassign l eL eD k x es1 W K hx hr hS hK
  have e : (#[p].zip #[enc x]).foldl (fun (t : Array Value) (q : Tmp × Value) => t.setIfInBounds q.1 q.2) a.tmps = a.tmps.setIfInBounds p (enc x) := by simp
  rw [← e] at h
  exact h) hbody hdone hstop
theorem Sep.third {n : Nat} {w0 w : World} {a b c : Ent} {es : List Ent} (S : Sep n w0 (a :: b :: c :: es) w) : Sep n w0 (b :: c :: a :: es) w :=
 S.perm (((List.Perm.swap b a (c :: es))).trans ((List.Perm.swap c a es).cons b))
theorem wpIn_world {F : Fence} {n : Nat} {P : Program} {c : Code} {Q : Exit → Act → World → Prop} {a : Act} {w : World} (R : World → Prop) (h : R w) (k : ∀ W,R W → c.wpIn F n P Q a W) : c.wpIn F n P Q a w := k w h
theorem fr_of {t : Array Value} {d : List Deferred} (f : (Nat → Value) → Array Value) (h : t = f fun n => t.getD n undef) : ∃ u : Nat → Value,(⟨t,d⟩ : Act) = ⟨f u,d⟩ := ⟨fun n => t.getD n undef,by rw [← h]⟩
def boxN (w : World) : Value → Nat
 | .pointer (some p) => match w.cell? p with
   | some (.int _ x) => x.toNat
   | _ => 0
 | _ => 0
theorem boxN_of {w : World} {p : Addr} {k : IntKind} {n : Nat} (h : w.cell? p = some (.int k n)) : boxN w (.pointer (some p)) = n := by
 simp only [boxN,h,Int.toNat_natCast]
section
section
variable {κ β : Type} [DecidableEq κ]
def MapS (key : κ → Value) (ve : β → Value) (w : World) (b : Nat) (f : κ → Option β) : Prop :=
 ∃ (l : List (κ × β × Nat)) (clock : Nat),w.heap[b]? = some (.map (l.map (entryG key ve)).toArray clock) ∧ (∀ x,f x = valG l x) ∧ ∀ e,e ∈ l → e.2.2 < clock
theorem MapS.g {key : κ → Value} {ve : β → Value} {w : World} {b : Nat} {f : κ → Option β} (h : MapS key ve w b f) : MapG key ve w b f := by
 obtain ⟨l,c,h1,h2,_⟩ := h
 exact ⟨l,c,h1,h2⟩
def MapW (key : κ → Value) (ve : β → Value) (w : World) (b : Nat) (f : κ → Option β) (y : κ) (z : β) (c : Nat) : Prop :=
 ∃ l : List (κ × β × Nat),w.heap[b]? = some (.map ((l ++ [(y,z,c)]).map (entryG key ve)).toArray (c + 1)) ∧ (∀ x,f x = valG l x) ∧ f y = none ∧ ∀ e,e ∈ l → e.2.2 < c
def eMapS (key : κ → Value) (ve : β → Value) (b : Nat) (f : κ → Option β) : Ent where
 foot := [b]
 ok w := MapS key ve w b f
 lt w h k hk := by simp at hk; subst hk; exact h.g.lt
 turn w w' h hg := by
  obtain ⟨l,c,h1,h2⟩ := h
  exact ⟨l,c,(hg b (by simp)).trans h1,h2⟩
def eMapW (key : κ → Value) (ve : β → Value) (b : Nat) (f : κ → Option β) (y : κ) (z : β) (c : Nat) : Ent where
 foot := [b]
 ok w := MapW key ve w b f y z c
 lt w h k hk := by
  simp at hk; subst hk
  obtain ⟨l,h1,_⟩ := h
  exact (Array.getElem?_eq_some_iff.1 h1).1
 turn w w' h hg := by
  obtain ⟨l,h1,h2⟩ := h
  exact ⟨l,(hg b (by simp)).trans h1,h2⟩
theorem valG_fresh {l : List (κ × β × Nat)} {y : κ} (h : valG l y = none) : l.findIdx? (fun e => decide (e.1 = y)) = none := by
 cases hj : l.findIdx? (fun e => decide (e.1 = y)) with
 | none => rfl
 | some j =>
   obtain ⟨e,_,_,h2,_⟩ := valG_some hj
   rw [h] at h2; cases h2
theorem MapS.store {P : Program} {M T E : TypeId} {D : TypeDesc} {key : κ → Value} {ve : β → Value} (K : KeyG P T D key) (hM : P.underlying M = some (.map T E)) {w : World} {b : Nat} {f : κ → Option β} (h : MapS key ve w b f) (y : κ) (hy : f y = none) (v : β) :
 ∃ w',(Instr.mapUpdate M (.map (some b)) (key y) (ve v)).run P w = .ok () w' ∧ MapS key ve w' b (fun u => if u = y then some v else f u) ∧ w.grownBy w' (some b) := by
 obtain ⟨l,c,hb,hf,hs⟩ := h
 have hk := findKeyG_run (ve := ve) K y w l
 have hj := valG_fresh ((hf y).symm.trans hy)
 rw [hj] at hk
 simp only [Option.bind_none] at hk
 refine ⟨ChangeMaps.setBlock w b (.map ((l ++ [(y,v,c)]).map (entryG key ve)).toArray (c + 1)),?_,⟨l ++ [(y,v,c)],c + 1,ChangeMaps.heap_setBlock_same hb _,fun u => by rw [findG_push hj]; simp only [hf],fun e he => ?_⟩,
  ⟨rfl,rfl,rfl,by simp [ChangeMaps.setBlock],fun i _ hi => ChangeMaps.heap_setBlock_other hb _ (fun e => hi (by rw [e]))⟩⟩
 · simp [Instr.mapUpdate,run_underlying hM,MapKept.run_getObj_map hb,K.chk,hk,MapKept.run_setObj_map _ hb,Result.andThen,ChangeMaps.setBlock,entryG]
 · rcases List.mem_append.1 he with g | g
   · have := hs e g; omega
   · rw [List.mem_singleton.1 g]; exact Nat.lt_succ_self c
theorem MapS.entry {P : Program} {M T E : TypeId} {D : TypeDesc} {key : κ → Value} {ve : β → Value} (K : KeyG P T D key) (hM : P.underlying M = some (.map T E)) {z : β} (hz : ∀ w,(zeroValue E).run P w = .ok (ve z) w) {w : World} {b : Nat} {f : κ → Option β} (h : MapS key ve w b f) (y : κ) (hy : f y = none) :
 ∃ (w' : World) (c : Nat),(Instr.mapEntry M (.map (some b)) (key y)).run P w = .ok (.tuple #[ve z,.int .i64 (c : Int)]) w' ∧ MapW key ve w' b f y z c ∧ w.grownBy w' (some b) := by
 obtain ⟨l,c,hb,hf,hs⟩ := h
 have hk := findKeyG_run (ve := ve) K y w l
 have hj := valG_fresh ((hf y).symm.trans hy)
 rw [hj] at hk
 simp only [Option.bind_none] at hk
 refine ⟨ChangeMaps.setBlock w b (.map ((l ++ [(y,z,c)]).map (entryG key ve)).toArray (c + 1)),c,?_,⟨l,ChangeMaps.heap_setBlock_same hb _,hf,hy,hs⟩,
  ⟨rfl,rfl,rfl,by simp [ChangeMaps.setBlock],fun i _ hi => ChangeMaps.heap_setBlock_other hb _ (fun e => hi (by rw [e]))⟩⟩
 simp [Instr.mapEntry,run_underlying hM,MapKept.run_getObj_map hb,K.chk,hk,hz,MapKept.run_setObj_map _ hb,Result.andThen,ChangeMaps.setBlock,entryG,goInt]
theorem MapW.fill {P : Program} {M : TypeId} {key : κ → Value} {ve : β → Value} {w : World} {b : Nat} {f : κ → Option β} {y : κ} {z : β} {c : Nat} (h : MapW key ve w b f y z c) (v : β) :
 ∃ w',(Instr.entryStore M (.map (some b)) (.int .i64 (c : Int)) (ve v)).run P w = .ok () w' ∧ MapS key ve w' b (fun u => if u = y then some v else f u) ∧ w.grownBy w' (some b) := by
 obtain ⟨l,hb,hf,hy,hs⟩ := h
 have hj := valG_fresh ((hf y).symm.trans hy)
 have hidx : ((l ++ [(y,z,c)]).map (entryG key ve)).toArray.findIdx? (fun e => ((e.born : Nat) : Int) == ((c : Nat) : Int)) = some l.length := by
  rw [WideElems.findIdx_arr,List.toList_toArray,List.findIdx?_eq_some_iff_getElem]
  refine ⟨by simp,by simp [entryG],fun j hj => ?_⟩
  have hjl : j < l.length := hj
  have : ((l ++ [(y,z,c)]).map (entryG key ve))[j]'(by simp; omega) = entryG key ve l[j] := by
   rw [List.getElem_map,List.getElem_append_left hjl]
  rw [this]
  have h2 := hs l[j] (List.getElem_mem hjl)
  simp only [entryG,beq_iff_eq]
  omega
 refine ⟨ChangeMaps.setBlock w b (.map ((l ++ [(y,v,c)]).map (entryG key ve)).toArray (c + 1)),?_,⟨l ++ [(y,v,c)],c + 1,ChangeMaps.heap_setBlock_same hb _,fun u => by rw [findG_push hj]; simp only [hf],fun e he => ?_⟩,
  ⟨rfl,rfl,rfl,by simp [ChangeMaps.setBlock],fun i _ hi => ChangeMaps.heap_setBlock_other hb _ (fun e => hi (by rw [e]))⟩⟩
 · have hmod : ((l ++ [(y,z,c)]).map (entryG key ve)).toArray.modify l.length (fun e => { e with val := ve v }) = ((l ++ [(y,v,c)]).map (entryG key ve)).toArray := by
    apply Array.ext'
    rw [Array.toList_modify]
    simp only [List.map_append,List.map_cons,List.map_nil]
    have := WideElems.modify_last (fun e : MapEntry => { e with val := ve v }) (entryG key ve (y,z,c)) (l.map (entryG key ve))
    rw [List.length_map] at this
    exact this
   simp only [List.map_append,List.map_cons,List.map_nil] at hidx hmod hb
   simp [Instr.entryStore,MapKept.run_getObj_map hb,asInt,asIntOf,hidx,hmod,MapKept.run_setObj_map _ hb,Result.andThen,ChangeMaps.setBlock]
 · rcases List.mem_append.1 he with g | g
   · have := hs e g; omega
   · rw [List.mem_singleton.1 g]; exact Nat.lt_succ_self c

variable {n : Nat} {w0 w : World} {es : List Ent} {P : Program} {ops : Array Oper} {o : Oper} {a : Act} {K' : Act → World → Prop} {Q : Exit → Act → World → Prop} {F : Prop}
end
end
section

structure BwdD (a : Au) (N : Nat) (tq fs : List Int) (d : Nat → Int) (h k : Nat) : Prop where
 b : Bwd a N tq fs d h k
 up : ∀ (i j : Nat) u v,i ≤ j → fs[i]? = some u → fs[j]? = some v → d u.toNat ≤ d v.toNat
 one : ∀ v w,v ∈ fs → fs[h]? = some w → d v.toNat ≤ d w.toNat + 1
 dz : ∀ v,v ∈ fs → (d v.toNat = 0 ↔ v ∈ tq)
 pr : ∀ v,v ∈ fs → d v.toNat ≠ 0 → ∃ e,nextV a.ed v e ∈ fs ∧ d v.toNat = d (nextV a.ed v e).toNat + 1
 ed : ∀ (j q : Nat) v p,fs[j]? = some v → (predsOf a.ed v.toNat)[q]? = some p → (j < h ∨ j = h ∧ q < k) → d p.toNat ≤ d v.toNat + 1
 lo : ∀ s : Nat,-1 ≤ d s
section
variable {a : Au} {N h k : Nat} {tq fs : List Int} {d : Nat → Int}
theorem BwdD.next (B : BwdD a N tq fs d h k) {v : Int} (hv : fs[h]? = some v) (hk : (predsOf a.ed v.toNat).length ≤ k) : BwdD a N tq fs d (h + 1) 0 :=
 ⟨B.b.next hv hk,B.up,fun u w hu hw => by
  have h1 := B.one u v hu hv
  have h2 := B.up h (h + 1) v w (by omega) hv hw
  omega,B.dz,B.pr,fun j q u p hu hp hc => by
  by_cases g : j < h
  · exact B.ed j q u p hu hp (.inl g)
  · obtain rfl : j = h := by omega
    rw [hv] at hu; cases hu
    have := (List.getElem?_eq_some_iff.1 hp).1
    exact B.ed j q v p hv hp (.inr ⟨rfl,by omega⟩),B.lo⟩
theorem BwdD.old (B : BwdD a N tq fs d h k) {v p : Int} (hv : fs[h]? = some v) (hp : (predsOf a.ed v.toNat)[k]? = some p) (hm : p ∈ fs) : BwdD a N tq fs d h (k + 1) :=
 ⟨B.b.old hv hp hm,B.up,B.one,B.dz,B.pr,fun j q u p' hu hp' hc => by
  by_cases g : j < h ∨ j = h ∧ q < k
  · exact B.ed j q u p' hu hp' g
  · obtain ⟨rfl,rfl⟩ : j = h ∧ q = k := by omega
    rw [hv] at hu; cases hu
    rw [hp] at hp'; cases hp'
    exact B.one p v hm hv,B.lo⟩
theorem BwdD.new (hr : a.Right) (hN : a.n = N) (B : BwdD a N tq fs d h k) {v p : Int} (hv : fs[h]? = some v) (hp : (predsOf a.ed v.toNat)[k]? = some p) (hm : ¬ p ∈ fs) :
 BwdD a N tq (fs ++ [p]) (fun s => if s = p.toNat then d v.toNat + 1 else d s) h (k + 1) := by
 have hvm := List.mem_of_getElem? hv
 have hvr := B.b.rg v hvm
 obtain ⟨x,hx,x1,x2⟩ := mem_predsOf.1 (List.mem_of_getElem? hp)
 have hn := edge_next hr hx
 have hp0 : 0 ≤ p ∧ p < N := by rw [← x2]; omega
 have hd0 : 0 ≤ d v.toNat := (B.b.mem v.toNat (by omega)).2 (by rw [Int.toNat_of_nonneg hvr.1]; exact hvm)
 have old : ∀ u,u ∈ fs → (if u.toNat = p.toNat then d v.toNat + 1 else d u.toNat) = d u.toNat := fun u hu => by
  have h2 := B.b.rg u hu
  have : u ≠ p := fun e => hm (by rw [← e]; exact hu)
  rw [if_neg (by omega)]
 have new : (if p.toNat = p.toNat then d v.toNat + 1 else d p.toNat) = d v.toNat + 1 := if_pos rfl
 have hv' : (fs ++ [p])[h]? = some v := get_keep hv _
 refine ⟨B.b.new hr hN hv hp hm,fun i j u u' hij hu hu' => ?_,fun u w hu hw => ?_,fun u hu => ?_,fun u hu h0 => ?_,fun j q u p' hu hp' hc => ?_,fun s => by
  show -1 ≤ (if s = p.toNat then d v.toNat + 1 else d s)
  have := B.lo s
  split <;> omega⟩
 · rcases getElem?_snoc hu' with g' | ⟨g',rfl⟩
   · have hj := (List.getElem?_eq_some_iff.1 g').1
     have g : fs[i]? = some u := by rwa [List.getElem?_append_left (by omega)] at hu
     show (if u.toNat = p.toNat then d v.toNat + 1 else d u.toNat) ≤ (if u'.toNat = p.toNat then d v.toNat + 1 else d u'.toNat)
     rw [old u (List.mem_of_getElem? g),old u' (List.mem_of_getElem? g')]
     exact B.up i j u u' hij g g'
   · show (if u.toNat = u'.toNat then d v.toNat + 1 else d u.toNat) ≤ (if u'.toNat = u'.toNat then d v.toNat + 1 else d u'.toNat)
     rw [new]
     rcases getElem?_snoc hu with g | ⟨_,rfl⟩
     · rw [old u (List.mem_of_getElem? g)]
       exact B.one u v (List.mem_of_getElem? g) hv
     · rw [new]; exact Int.le_refl _
 · rw [hv'] at hw; cases hw
   show (if u.toNat = p.toNat then d v.toNat + 1 else d u.toNat) ≤ (if v.toNat = p.toNat then d v.toNat + 1 else d v.toNat) + 1
   rw [old v hvm]
   rcases List.mem_append.1 hu with g | g
   · rw [old u g]; exact B.one u v g hv
   · rw [List.mem_singleton.1 g,new]; exact Int.le_refl _
 · show (if u.toNat = p.toNat then d v.toNat + 1 else d u.toNat) = 0 ↔ u ∈ tq
   rcases List.mem_append.1 hu with g | g
   · rw [old u g]; exact B.dz u g
   · rw [List.mem_singleton.1 g,new]
     exact ⟨fun e => by omega,fun e => absurd (B.b.tgt p e) hm⟩
 · have h0' : (if u.toNat = p.toNat then d v.toNat + 1 else d u.toNat) ≠ 0 := h0
   show ∃ e,nextV a.ed u e ∈ fs ++ [p] ∧ (if u.toNat = p.toNat then d v.toNat + 1 else d u.toNat) = (if (nextV a.ed u e).toNat = p.toNat then d v.toNat + 1 else d (nextV a.ed u e).toNat) + 1
   rcases List.mem_append.1 hu with g | g
   · rw [old u g] at h0' ⊢
     obtain ⟨e,e1,e2⟩ := B.pr u g h0'
     exact ⟨e,List.mem_append_left _ e1,by rw [old _ e1]; exact e2⟩
   · rw [List.mem_singleton.1 g,new]
     have e3 : nextV a.ed p x.ev = v := by rw [← x2,hn.1,x1,Int.toNat_of_nonneg hvr.1]
     exact ⟨x.ev,by rw [e3]; exact List.mem_append_left _ hvm,by rw [e3,old v hvm]⟩
 · show (if p'.toNat = p.toNat then d v.toNat + 1 else d p'.toNat) ≤ (if u.toNat = p.toNat then d v.toNat + 1 else d u.toNat) + 1
   rcases getElem?_snoc hu with g | ⟨g,rfl⟩
   · rw [old u (List.mem_of_getElem? g)]
     by_cases c : j < h ∨ j = h ∧ q < k
     · rw [old p' (B.b.cl j q u p' g hp' c)]
       exact B.ed j q u p' g hp' c
     · obtain ⟨rfl,rfl⟩ : j = h ∧ q = k := by omega
       rw [hv] at g; cases g
       rw [hp] at hp'; cases hp'
       rw [new]; exact Int.le_refl _
   · have := (List.getElem?_eq_some_iff.1 hv).1
     omega
theorem BwdD.start (hnd : tq.Nodup) (hrg : ∀ v,v ∈ tq → 0 ≤ v ∧ v < N) : BwdD a N tq tq (fun s => if (s : Int) ∈ tq then 0 else -1) 0 0 := by
 have z : ∀ v,v ∈ tq → (if ((v.toNat : Nat) : Int) ∈ tq then (0 : Int) else -1) = 0 := fun v hv => by
  have := hrg v hv
  rw [Int.toNat_of_nonneg this.1,if_pos hv]
 exact ⟨Bwd.start hnd hrg,fun i j u v _ hu hv => by
  show (if ((u.toNat : Nat) : Int) ∈ tq then (0 : Int) else -1) ≤ (if ((v.toNat : Nat) : Int) ∈ tq then (0 : Int) else -1)
  rw [z u (List.mem_of_getElem? hu),z v (List.mem_of_getElem? hv)]; exact Int.le_refl _,fun v w hv hw => by
  show (if ((v.toNat : Nat) : Int) ∈ tq then (0 : Int) else -1) ≤ (if ((w.toNat : Nat) : Int) ∈ tq then (0 : Int) else -1) + 1
  rw [z v hv,z w (List.mem_of_getElem? hw)]; decide,fun v hv => ⟨fun _ => hv,fun _ => z v hv⟩,fun v hv h => absurd (z v hv) h,fun j q v p _ _ h => by omega,fun s => by show -1 ≤ (if (s : Int) ∈ tq then (0 : Int) else -1); split <;> omega⟩
def DistOk (a : Au) (N : Nat) (tq : List Int) (d : Nat → Int) : Prop := ∀ s : Nat,s < N → (0 ≤ d s ↔ ∃ w,runV a.ed s w ∈ tq) ∧ (0 ≤ d s → ∃ w : List Int,(w.length : Int) = d s ∧ runV a.ed s w ∈ tq) ∧ (∀ w : List Int,runV a.ed s w ∈ tq → d s ≤ w.length) ∧ -1 ≤ d s
theorem BwdD.fin (hr : a.Right) (hN : a.n = N) (hto : ∀ v,v ∈ tq → 0 ≤ v) (B : BwdD a N tq fs d fs.length k) : DistOk a N tq d := by
 have hcl : ∀ v e,0 ≤ v → nextV a.ed v e ∈ fs → v ∈ fs ∧ d v.toNat ≤ d (nextV a.ed v e).toNat + 1 := by
  intro v e hv hu
  have g0 := (B.b.rg _ hu).1
  rcases hr.next_cases v e with g | ⟨_,_,x,hx,x1,x2,x3⟩
  · omega
  · obtain ⟨j,hj,hju⟩ := List.mem_iff_getElem.1 hu
    have hpm : v ∈ predsOf a.ed (nextV a.ed v e).toNat := mem_predsOf.2 ⟨x,hx,by rw [x3,Int.toNat_of_nonneg g0],x1⟩
    obtain ⟨q,hq,hqv⟩ := List.mem_iff_getElem.1 hpm
    exact ⟨B.b.cl j q _ v (by rw [List.getElem?_eq_getElem hj,hju]) (by rw [List.getElem?_eq_getElem hq,hqv]) (.inl hj),B.ed j q _ v (by rw [List.getElem?_eq_getElem hj,hju]) (by rw [List.getElem?_eq_getElem hq,hqv]) (.inl hj)⟩
 have key : ∀ (w : List Int) (v : Int),0 ≤ v → runV a.ed v w ∈ tq → v ∈ fs ∧ d v.toNat ≤ w.length := by
  intro w
  induction w with
  | nil =>
    intro v _ h
    have hm := B.b.tgt v h
    exact ⟨hm,by rw [(B.dz v hm).2 h]; exact Int.le_refl _⟩
  | cons e r ih =>
    intro v hv h
    simp only [runV,hv,if_true] at h
    rcases hr.next_cases v e with g | ⟨g0,_⟩
    · rw [g,runV_neg _ (by omega)] at h
      have := hto _ h; omega
    · obtain ⟨h1,h2⟩ := ih _ g0 h
      obtain ⟨h3,h4⟩ := hcl v e hv h1
      exact ⟨h3,by simp only [List.length_cons]; omega⟩
 have ex : ∀ (n : Nat) (v : Int),v ∈ fs → d v.toNat = n → ∃ w : List Int,w.length = n ∧ runV a.ed v w ∈ tq := by
  intro n
  induction n with
  | zero => intro v hv h0; exact ⟨[],rfl,(B.dz v hv).1 h0⟩
  | succ n ih =>
    intro v hv h0
    obtain ⟨e,h1,h2⟩ := B.pr v hv (by omega)
    obtain ⟨w,hw1,hw2⟩ := ih _ h1 (by omega)
    have hv0 := (B.b.rg v hv).1
    exact ⟨e :: w,by simp [hw1],by simp only [runV,hv0,if_true]; exact hw2⟩
 intro s hs
 refine ⟨B.b.fin hr hN hto hs,fun h0 => ?_,fun w hw => ?_,B.lo s⟩
 · have hm := (B.b.mem s hs).1 h0
   obtain ⟨n,hn⟩ := Int.eq_ofNat_of_zero_le h0
   obtain ⟨w,h1,h2⟩ := ex n s hm (by rw [Int.toNat_natCast]; exact hn)
   exact ⟨w,by rw [h1,hn],h2⟩
 · have := (key w s (Int.natCast_nonneg _) hw).2
   rwa [Int.toNat_natCast] at this
end
end
end Go.Proofs.YtimdepdbcdbikaaGreat
