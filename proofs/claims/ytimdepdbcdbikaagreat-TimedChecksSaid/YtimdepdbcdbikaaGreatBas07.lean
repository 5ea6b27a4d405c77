/-
  reach: the edges of a state, one after another.
  Ranges over a function within a loop: the marks among the deferred calls; a round's region walked as everywhere.
  Words for memory: maps whose entries bear their stamps in order; entries that are laid first and filled later.
  Plain: a search backwards, breadth first, finds least numbers of events.
  reach.graph.backward with the least numbers of events.
-/
import Derived.Test.YtimdepdbcdbikaaGreatBas01
import Derived.Test.YtimdepdbcdbikaaGreatBas06
import Derived.Test.YtimdepdbcdbikaaGreatBas04
import Derived.OwnWalkIn
import Derived.TacticsInMore
import Derived.LoopNIn
import Derived.LoopIn
import Derived.BigRegionIn
import Derived.Sort.CutIn
import Derived.Sort.QuietIn
import Derived.Test.YtimdepdbcdbikaaGreatBas03
import Derived.WideKeyEntry
set_option linter.unusedSimpArgs false
set_option linter.unusedVariables false
namespace Go.Proofs.YtimdepdbcdbikaaGreat
open Go.RowKit
set_option maxRecDepth 100000
section

def GivesSeq (a : Au) (p : AuP) (g0 s : Nat) (w : World) (e : Ending) (w' : World) : Prop := ∃ gb bs,e = .returned (.func (.func 117) #[] #[.pointer (some ⟨gb,0,none⟩),.pointer (some ⟨bs,0,none⟩)]) ∧ Hid (Sep w.heap.size w [eBlk bs 3 [.int .i64 (s : Int)],eBlk gb 140 (grCells a p g0)] w')
set_option maxHeartbeats 1000000 in
theorem edgesSeq_c (a : Au) (p : AuP) (g0 s : Nat) (w : World) :
 Calls Tryz.prog 100 #[.agg (grCells a p g0).toArray,.int .i64 (s : Int)] w (GivesSeq a p g0 s w) := by
 obtain ⟨al,n,mr,ed⟩ := a
 obtain ⟨A1,c1,A2,c2,A3,c3⟩ := p
 dsimp only [grCells]
 go_enter Tryz.func100,Tryz.ntmps100
 go_wp2_with fail
 go_ret
 refine ⟨w.heap.size,w.heap.size + 1,rfl,?_⟩
 exact ((Sep.here w).alloc' _ [_,_,_,_,_] rfl rfl).alloc' _ [_] rfl (by simp)

attribute [local go_sem] Oper.semAt_some
set_option maxHeartbeats 4000000 in
theorem edges_iter (a : Au) (p : AuP) (g0 gb bs s n0 m : Nat) (w0 w : World) (hr : a.Right) (hA : EdsAt w0 p.A3 a.ed) (hn0 : n0 = w0.heap.size) (hs : s < a.n.toNat) (hcap : a.ed.length ≤ p.c3) :
 IterS Tryz.prog (m + 1) 117 #[.pointer (some ⟨gb,0,none⟩),.pointer (some ⟨bs,0,none⟩)] (fun x : Ed => #[.agg x.cells.toArray]) (fun _ => []) (fun k x => (outOf a.ed s)[k]? = some x) (fun k => k = (outOf a.ed s).length) (fun _ => True)
  [eBlk bs 3 [.int .i64 (s : Int)],eBlk gb 140 (grCells a p g0),eBlk g0 3 (mkI (a.n.toNat + 1) fun j => (fstV a.ed j : Int))] n0 w0 w := by
 intro l R Rx es W hb S h0 hbd hround
 subst hn0
 have h00 := hr.n0
 have hn := hr.n1
 have HR := Lib.hid hr
 have HA := Lib.hid hA
 have hle := ed_len hr
 have HY := Lib.hid hround
 have HB := Lib.hid hbd
 have hmono := fstV_mono a.ed s
 have htop := fstV_le a.ed (s + 1)
 have hsz := outOf_size hr s
 obtain ⟨al,n,mr,ed⟩ := a
 obtain ⟨A1,c1,A2,c2,A3,c3⟩ := p
 obtain ⟨N,rfl⟩ := Int.eq_ofNat_of_zero_le h00
 dsimp only [grCells] at HY HB hn hle hmono htop hsz hcap hs ⊢
 rw [Int.toNat_natCast] at hs
 have hw2 : IntKind.i64.wrap ((s : Int) + 1) = (s : Int) + 1 := IntWalk.i64_in _ (by omega)
 have hw3 : ((s : Int) + 1).toNat = s + 1 := by omega
 have hp1 : (0 : Int) ≤ (s : Int) + 1 := by omega
 have hp2 : (s : Int) + 1 < (N : Int) + 1 := by omega
 have hp3 : (s : Int) < (N : Int) + 1 := by omega
 have hmem := (hbd 0 es h0).2
 have kb := BlkAt.cell (S.ok _ (hmem _ (List.mem_cons_self))) 0
 have kg3 := BlkAt.cell (S.ok _ (hmem _ (List.mem_cons_of_mem _ (List.mem_cons_self)))) 3
 have kg4 := BlkAt.cell (S.ok _ (hmem _ (List.mem_cons_of_mem _ (List.mem_cons_self)))) 4
 have kf0 := (BlkAt.cell (S.ok _ (hmem _ (List.mem_cons_of_mem _ (List.mem_cons_of_mem _ (List.mem_cons_self))))) s).trans (mkI_get (show s < N + 1 by omega))
 have kf1 := (BlkAt.cell (S.ok _ (hmem _ (List.mem_cons_of_mem _ (List.mem_cons_of_mem _ (List.mem_cons_self))))) (s + 1)).trans (mkI_get (show s + 1 < N + 1 by omega))
 simp only [grCells,List.getElem?_cons_succ,List.getElem?_cons_zero,Int.toNat_natCast] at kb kg3 kg4
 obtain ⟨f0,hf0⟩ : ∃ f0,f0 = fstV ed s := ⟨_,rfl⟩
 obtain ⟨f1,hf1⟩ : ∃ f1,f1 = fstV ed (s + 1) := ⟨_,rfl⟩
 rw [← hf0,← hf1] at hmono hsz
 rw [← hf0] at kf0
 rw [← hf1] at kf1 htop
 have HF : Hid (f0 = fstV ed s ∧ f1 = fstV ed (s + 1)) := ⟨hf0,hf1⟩
 clear hf0 hf1
 clear hr hA h00 hround hbd hmem
 refine callsIn_of_wp Tryz.func117 rfl trivial ?_ rfl
 simp only [Tryz.ntmps117,List.size_toArray,List.length_cons,List.length_nil,Nat.reduceAdd,Nat.reduceSub,Array.replicate_succ,Array.replicate_zero,List.push_toArray,List.append_toArray,List.nil_append,List.cons_append]
 gi_wp2
 by_cases hz : f0 < f1
 · obtain ⟨b,off,x,hAe,hb,_⟩ := EdsAt.at HA.out (show f0 < ed.length by omega)
   subst hAe
   refine wpIn_wide.2 ?_
   go_quiet (fail)
   have RK := Lib.hid h0
   have S1 : Hid (Sep w0.heap.size w0 es W) := S
   obtain ⟨M,hM⟩ : ∃ M,M = f1 - f0 := ⟨_,rfl⟩
   have HM := Lib.hid hM
   rw [← hM] at hsz ⊢
   have hMb : M ≤ 131072 := by omega
   clear hM h0 S kb kg3 kg4 kf0 kf1 hw2 hw3 hp1 hp2 hp3 hb
   gi_wp2
   gi_loopw [22] (fun i wr => ∃ (k : Nat) (es1 : List Ent),i = .int .i64 k ∧ k ≤ M ∧ Hid (R k es1) ∧ Hid (Sep w0.heap.size w0 es1 wr)) (fun i _ => M - (intOf i).toNat)
   case atStart => exact ⟨0,es,rfl,Nat.zero_le _,RK.out,S1.out.draws _⟩
   case round =>
    clear RK S1
    obtain ⟨k,es1,rfl,hk,RK,S⟩ := hrel
    by_cases hlt : k < M
    · have hkl : f0 + k < ed.length := by have := HM.out; omega
      obtain ⟨x,hx,y0,y1,y2⟩ := EdsAt.more (HA.out.below EdE.stays S.out.below) hkl
      rw [Nat.add_mul,← Nat.add_assoc] at y0 y1 y2
      have hxo : (outOf ed s)[k]? = some x := by
       have := outOf_at HR.out s k (by have h1 := HM.out; have h2 := HF.out; show k < fstV ed (s + 1) - fstV ed s; omega)
       have h2 := HF.out.1
       rw [this]
       show ed[fstV ed s + k]? = some x
       rw [← h2]; exact hx
      obtain ⟨fn,tmps,assign,body,hy,hR⟩ := HY.out k x es1 (wr.alloc (.cells #[.int .i64 x.src,.int .i64 x.ev,.int .i64 x.dst] 76)) hxo RK.out (S.out.next (Below.new wr _))
      have HRR := Lib.hid hR
      dsimp only [Ed.cells] at hy
      clear hx hxo hR S RK hkl
      gi_wp2
      refine HRR.out.mono ?_
      rintro e W3 (⟨rfl,es2,hr2,S2⟩ | ⟨rfl,es2,hr2,S2⟩)
      · have RK := Lib.hid hr2
        have S := Lib.hid S2
        clear hr2 S2 HRR hy y0 y1 y2
        gi_wp2
        go_roundw
        case rel => exact ⟨k + 1,es2,by go_num,by omega,RK.out,S.out⟩
        case measure => simp [intOf]; omega
      · have RK := Lib.hid hr2
        have S := Lib.hid S2
        clear hr2 S2 HRR hy y0 y1 y2
        gi_wp2
        refine bodyPost_ret (results_none rfl _ _ _) rfl ?_
        exact ⟨⟨_,rfl⟩,.inr ⟨es2,RK.out,S.out⟩⟩
    · obtain rfl : k = M := by omega
      gi_wp2
      go_end0
      exact ⟨⟨_,rfl⟩,.inl ⟨k,es1,hsz.symm,RK.out,S.out⟩⟩
 · obtain rfl : f0 = f1 := by omega
   have RK := Lib.hid h0
   have S1 : Hid (Sep w0.heap.size w0 es W) := S
   have HS : Hid (0 = (outOf ed s).length) := by unfold Hid; omega
   clear S h0
   cases A3 with
   | none =>
     refine wpIn_wide.2 ?_
     go_quiet (fail)
     clear kb kg3 kg4 kf0 kf1 hw2 hw3 hp1 hp2 hp3 hb
     gi_wp2
     gi_loopw [22] (fun i wr => i = .int .i64 0 ∧ Hid (Sep w0.heap.size w0 es wr)) (fun i _ => 0)
     case atStart => exact ⟨rfl,S1.out.draws _⟩
     case round =>
      clear S1
      obtain ⟨rfl,S⟩ := hrel
      gi_wp2
      go_end0
      exact ⟨⟨_,rfl⟩,.inl ⟨0,es,HS.out,RK.out,S.out⟩⟩
   | some A =>
     refine wpIn_wide.2 ?_
     go_quiet (fail)
     generalize (if c3 = f0 then some A else some (A.add (f0 * 3))) = AA
     clear kb kg3 kg4 kf0 kf1 hw2 hw3 hp1 hp2 hp3 hb
     gi_wp2
     gi_loopw [22] (fun i wr => i = .int .i64 0 ∧ Hid (Sep w0.heap.size w0 es wr)) (fun i _ => 0)
     case atStart => exact ⟨rfl,S1.out.draws _⟩
     case round =>
      clear S1
      obtain ⟨rfl,S⟩ := hrel
      gi_wp2
      go_end0
      exact ⟨⟨_,rfl⟩,.inl ⟨0,es,HS.out,RK.out,S.out⟩⟩
end
def mkD (D : Nat) : Deferred := { target := .collected D,args := #[] }
abbrev eMk (D : Nat) : Ent := eObj D (.deferred (some []))
def mksD (Ds : List Nat) : List Deferred := Ds.map mkD
def mksE (Ds : List Nat) : List Ent := Ds.map eMk
theorem Sep.perm {n : Nat} {w0 w : World} {es es' : List Ent} (S : Sep n w0 es w) (h : es.Perm es') : Sep n w0 es' w :=
 ⟨S.fro,fun e he => S.ok e (h.mem_iff.2 he),fun e he => S.ge e (h.mem_iff.2 he),(h.pairwise_iff (fun {a b} hab g h1 h2 => hab g h2 h1)).1 S.ap⟩
theorem Sep.marked {n D : Nat} {w0 w : World} {A : List Ent} {Ds : List Nat} (S : Sep n w0 (eObj D (.deferred (some [])) :: (A ++ mksE Ds)) w) : Sep n w0 (A ++ mksE (D :: Ds)) w := S.perm List.perm_middle.symm
theorem Sep.front {n : Nat} {w0 w : World} {A : List Ent} {Ds : List Nat} (S : Sep n w0 (A ++ mksE Ds) w) : Sep n w0 (mksE Ds ++ A) w := S.perm List.perm_append_comm
def bodyPostR (P : Program) (fn : Func) (R : Ending → World → Prop) : Exit → Act → World → Prop
 | .normal,a,w | .ret,a,w => LeavesInM Fence.wide 1 P fn a.tmps R a.defers .returning w
 | _,_,_ => False
theorem leaves_marks {F : Fence} {n n0 : Nat} {P : Program} {fn : Func} {tmps : Array Value} {R : Ending → World → Prop} {w0 : World} {es : List Ent} (h : ∀ w',Sep n0 w0 es w' → ∃ v,(results fn tmps).run P w' = .ok v w' ∧ R (.returned v) w') :
 ∀ (Ds : List Nat) (w : World),Sep n0 w0 (mksE Ds ++ es) w → LeavesInM F n P fn tmps R (mksD Ds) .returning w
 | [],w,S => h w S
 | D :: Ds,w,S => by
   refine ⟨by simp,.inl ⟨D,_,rfl,run_takeDeferred (S.get 0 rfl),?_⟩⟩
   exact leaves_marks h Ds _ ((S.put 0 rfl (.deferred none)).drop1)
theorem ret_marks {n0 : Nat} {P : Program} {fn : Func} {tmps : Array Value} {R : Ending → World → Prop} {w0 w : World} {es : List Ent} (Ds : List Nat) (S : Sep n0 w0 (es ++ mksE Ds) w)
 (h : ∀ w',Sep n0 w0 es w' → ∃ v,(results fn tmps).run P w' = .ok v w' ∧ R (.returned v) w') : bodyPostR P fn R .ret { tmps := tmps,defers := mksD Ds } w := leaves_marks h Ds w S.front
theorem calls_marks {P : Program} {f : FuncId} {fn : Func} {c : Code} {args : Array Value} {w : World} {R : Ending → World → Prop} (hf : P.funcs[f]? = some fn) (hb : fn.body = some c)
 (h : c.wp P (bodyPostR P fn R) { tmps := args ++ Array.replicate (fn.ntmps - args.size) undef,defers := [] } w) : Calls P f args w R :=
 callsIn_wide.1 (callsIn_of_wp_marks (n := 1) hf hb trivial (wpIn_mono (wpIn_wide.2 h) fun e a w hq => by
  cases e with
  | normal => exact hq
  | ret => exact hq
  | exit id => exact hq.elim
  | goto l => exact hq.elim
  | panic ch => exact hq.elim
  | outgrown => exact hq.elim) rfl)
theorem wpIn_region_list {P : Program} {ops : Array Oper} {Q : Exit → Act → World → Prop} {id l m : Nat} {a : Act} {w : World} (hd : noDefer ops = true) (hQ : ∀ a w,¬ Q .outgrown a w) (h : wpList P ops Q ops.toList a w) : (Code.region id ops false).wpIn (Fence.wide.inRound l) m P Q a w :=
 wpIn_region_plain hd hQ (by rw [List.range_eq_range',← Array.length_toList,wpOps_eq_wpList ops.toList 0 (by simp)]; exact h)
theorem wp_rangeFunc_upd {P : Program} {α : Type} {g : Operand} {ps : Array Tmp} {assign body : Code} {Q : Exit → Act → World → Prop} {a : Act} {w : World} {n0 : Nat} {w0 : World} {es : List Ent}
 {gf : Nat} {lb : Array Value} (hg : a.eval g = .func (.func gf) #[] lb) (eg : ∀ args w,(callFunc gf args).run P w = .ok (.enter gf args) w)
 {encs : α → Array Value} {T : α → List Ent} {X : Nat → α → Prop} {Dn Bd : Nat → Prop} {need : List Ent} (m : Nat) (hseq : IterS P (m + 1) gf lb encs T X Dn Bd need n0 w0 w) (hps : ∀ x,(encs x).size = ps.size)
 (R : Nat → List Ent → Prop) (Rx : Code → List Ent → Prop) (S : Sep n0 w0 es w) (h0 : R 0 es) (hbd : ∀ k es,R k es → Bd k ∧ ∀ e,e ∈ need → e ∈ es) (upd : Act → α → Nat → Act) (Bx : α → Nat → List Ent)
 (hassign : ∀ (l : Nat) (eL eD : Ent) (k : Nat) (x : α) (es1 : List Ent) (W : World) (K : Act → World → Prop),X k x → R k es1 → Sep n0 w0 (T x ++ eL :: eD :: es1) W →
   (∀ (b : Nat) (W' : World),Sep n0 w0 (T x ++ eL :: eD :: (Bx x b ++ es1)) W' → K (upd a x b) W') →
   assign.wpIn (Fence.wide.inRound l) m P (Exit.then K (fun _ _ _ => False)) { tmps := (ps.zip (encs x)).foldl (fun t (p,v) => t.setIfInBounds p v) a.tmps,defers := [] } W)
 (hbody : ∀ (l : Nat) (eL eD : Ent) (k : Nat) (x : α) (es1 : List Ent) (b : Nat) (W : World),X k x → R k es1 → Sep n0 w0 (T x ++ eL :: eD :: (Bx x b ++ es1)) W →
   body.wpIn (Fence.wide.inRound l) m P (sepPost n0 w0 T eL eD R Rx k x) (upd a x b) W)
 (hdone : ∀ (D k : Nat) (es1 : List Ent) (W : World),Dn k → R k es1 → Sep n0 w0 (eObj D (.deferred (some [])) :: es1) W → Q .normal { a with defers := { target := .collected D,args := #[] } :: a.defers } W)
 (hstop : ∀ (D : Nat) (c : Code) (es1 : List Ent) (W : World),Rx c es1 → Sep n0 w0 (eObj D (.deferred (some [])) :: es1) W → c.wp P Q { a with defers := { target := .collected D,args := #[] } :: a.defers } W) :
 (Code.rangeFunc g ps assign body).wp P Q a w :=
 wp_rangeFunc_sep hg eg m hseq hps R Rx S h0 hbd (fun k x es2 a' => ∃ (b : Nat) (es1 : List Ent),es2 = Bx x b ++ es1 ∧ R k es1 ∧ a' = upd a x b)
  (fun l eL eD k x es1 W K hx hr hS hK => hassign l eL eD k x es1 W K hx hr hS fun b W' hS' => hK _ _ _ ⟨b,es1,rfl,hr,rfl⟩ hS')
  (fun l eL eD k x es2 a' W hx ⟨b,es1,e1,hr,e2⟩ hS => by subst e1; subst e2; exact hbody l eL eD k x es1 b W hx hr hS) hdone hstop
theorem wp_rangeFunc_upd1 {P : Program} {α : Type} {g : Operand} {p : Tmp} {assign body : Code} {Q : Exit → Act → World → Prop} {a : Act} {w : World} {n0 : Nat} {w0 : World} {es : List Ent}
 {gf : Nat} {lb : Array Value} (hg : a.eval g = .func (.func gf) #[] lb) (eg : ∀ args w,(callFunc gf args).run P w = .ok (.enter gf args) w)
 {enc : α → Value} {T : α → List Ent} {X : Nat → α → Prop} {Dn Bd : Nat → Prop} {need : List Ent} (m : Nat) (hseq : IterS P (m + 1) gf lb (fun x => #[enc x]) T X Dn Bd need n0 w0 w)
 (R : Nat → List Ent → Prop) (Rx : Code → List Ent → Prop) (S : Sep n0 w0 es w) (h0 : R 0 es) (hbd : ∀ k es,R k es → Bd k ∧ ∀ e,e ∈ need → e ∈ es) (upd : Act → α → Nat → Act) (Bx : α → Nat → List Ent)
 (hassign : ∀ (l : Nat) (eL eD : Ent) (k : Nat) (x : α) (es1 : List Ent) (W : World) (K : Act → World → Prop),X k x → R k es1 → Sep n0 w0 (T x ++ eL :: eD :: es1) W →
   (∀ (b : Nat) (W' : World),Sep n0 w0 (T x ++ eL :: eD :: (Bx x b ++ es1)) W' → K (upd a x b) W') →
   assign.wpIn (Fence.wide.inRound l) m P (Exit.then K (fun _ _ _ => False)) { tmps := a.tmps.setIfInBounds p (enc x),defers := [] } W)
 (hbody : ∀ (l : Nat) (eL eD : Ent) (k : Nat) (x : α) (es1 : List Ent) (b : Nat) (W : World),X k x → R k es1 → Sep n0 w0 (T x ++ eL :: eD :: (Bx x b ++ es1)) W →
   body.wpIn (Fence.wide.inRound l) m P (sepPost n0 w0 T eL eD R Rx k x) (upd a x b) W)
 (hdone : ∀ (D k : Nat) (es1 : List Ent) (W : World),Dn k → R k es1 → Sep n0 w0 (eObj D (.deferred (some [])) :: es1) W → Q .normal { a with defers := { target := .collected D,args := #[] } :: a.defers } W)
 (hstop : ∀ (D : Nat) (c : Code) (es1 : List Ent) (W : World),Rx c es1 → Sep n0 w0 (eObj D (.deferred (some [])) :: es1) W → c.wp P Q { a with defers := { target := .collected D,args := #[] } :: a.defers } W) :
 (Code.rangeFunc g #[p] assign body).wp P Q a w :=
 wp_rangeFunc_upd hg eg m hseq (fun _ => rfl) R Rx S h0 hbd upd Bx (fun l eL eD k x es1 W K hx hr hS hK => by
  have h := hassign l eL eD k x es1 W K hx hr hS hK
  have e : (#[p].zip #[enc x]).foldl (fun (t : Array Value) (q : Tmp × Value) => t.setIfInBounds q.1 q.2) a.tmps = a.tmps.setIfInBounds p (enc x) := by simp
  rw [← e] at h
  exact h) hbody hdone hstop
theorem Sep.third {n : Nat} {w0 w : World} {a b c : Ent} {es : List Ent} (S : Sep n w0 (a :: b :: c :: es) w) : Sep n w0 (b :: c :: a :: es) w :=
 S.perm (((List.Perm.swap b a (c :: es))).trans ((List.Perm.swap c a es).cons b))
theorem wpIn_world {F : Fence} {n : Nat} {P : Program} {c : Code} {Q : Exit → Act → World → Prop} {a : Act} {w : World} (R : World → Prop) (h : R w) (k : ∀ W,R W → c.wpIn F n P Q a W) : c.wpIn F n P Q a w := k w h
theorem fr_of {t : Array Value} {d : List Deferred} (f : (Nat → Value) → Array Value) (h : t = f fun n => t.getD n undef) : ∃ u : Nat → Value,(⟨t,d⟩ : Act) = ⟨f u,d⟩ := ⟨fun n => t.getD n undef,by rw [← h]⟩
def boxN (w : World) : Value → Nat
 | .pointer (some p) => match w.cell? p with
   | some (.int _ x) => x.toNat
   | _ => 0
 | _ => 0
theorem boxN_of {w : World} {p : Addr} {k : IntKind} {n : Nat} (h : w.cell? p = some (.int k n)) : boxN w (.pointer (some p)) = n := by
 simp only [boxN,h,Int.toNat_natCast]
section
section
variable {κ β : Type} [DecidableEq κ]
def MapS (key : κ → Value) (ve : β → Value) (w : World) (b : Nat) (f : κ → Option β) : Prop :=
 ∃ (l : List (κ × β × Nat)) (clock : Nat),w.heap[b]? = some (.map (l.map (entryG key ve)).toArray clock) ∧ (∀ x,f x = valG l x) ∧ ∀ e,e ∈ l → e.2.2 < clock
theorem MapS.g {key : κ → Value} {ve : β → Value} {w : World} {b : Nat} {f : κ → Option β} (h : MapS key ve w b f) : MapG key ve w b f := by
 obtain ⟨l,c,h1,h2,_⟩ := h
 exact ⟨l,c,h1,h2⟩
def MapW (key : κ → Value) (ve : β → Value) (w : World) (b : Nat) (f : κ → Option β) (y : κ) (z : β) (c : Nat) : Prop :=
 ∃ l : List (κ × β × Nat),w.heap[b]? = some (.map ((l ++ [(y,z,c)]).map (entryG key ve)).toArray (c + 1)) ∧ (∀ x,f x = valG l x) ∧ f y = none ∧ ∀ e,e ∈ l → e.2.2 < c
def eMapS (key : κ → Value) (ve : β → Value) (b : Nat) (f : κ → Option β) : Ent where
 foot := [b]
 ok w := MapS key ve w b f
 lt w h k hk := by simp at hk; subst hk; exact h.g.lt
 turn w w' h hg := by
  obtain ⟨l,c,h1,h2⟩ := h
  exact ⟨l,c,(hg b (by simp)).trans h1,h2⟩
def eMapW (key : κ → Value) (ve : β → Value) (b : Nat) (f : κ → Option β) (y : κ) (z : β) (c : Nat) : Ent where
 foot := [b]
 ok w := MapW key ve w b f y z c
 lt w h k hk := by
  simp at hk; subst hk
  obtain ⟨l,h1,_⟩ := h
  exact (Array.getElem?_eq_some_iff.1 h1).1
 turn w w' h hg := by
  obtain ⟨l,h1,h2⟩ := h
  exact ⟨l,(hg b (by simp)).trans h1,h2⟩
theorem valG_fresh {l : List (κ × β × Nat)} {y : κ} (h : valG l y = none) : l.findIdx? (fun e => decide (e.1 = y)) = none := by
 cases hj : l.findIdx? (fun e => decide (e.1 = y)) with
 | none => rfl
 | some j =>
   obtain ⟨e,_,_,h2,_⟩ := valG_some hj
   rw [h] at h2; cases h2
theorem MapS.store {P : Program} {M T E : TypeId} {D : TypeDesc} {key : κ → Value} {ve : β → Value} (K : KeyG P T D key) (hM : P.underlying M = some (.map T E)) {w : World} {b : Nat} {f : κ → Option β} (h : MapS key ve w b f) (y : κ) (hy : f y = none) (v : β) :
 ∃ w',(Instr.mapUpdate M (.map (some b)) (key y) (ve v)).run P w = .ok () w' ∧ MapS key ve w' b (fun u => if u = y then some v else f u) ∧ w.grownBy w' (some b) := by
 obtain ⟨l,c,hb,hf,hs⟩ := h
 have hk := findKeyG_run (ve := ve) K y w l
 have hj := valG_fresh ((hf y).symm.trans hy)
 rw [hj] at hk
 simp only [Option.bind_none] at hk
 refine ⟨ChangeMaps.setBlock w b (.map ((l ++ [(y,v,c)]).map (entryG key ve)).toArray (c + 1)),?_,⟨l ++ [(y,v,c)],c + 1,ChangeMaps.heap_setBlock_same hb _,fun u => by rw [findG_push hj]; simp only [hf],fun e he => ?_⟩,
  ⟨rfl,rfl,rfl,by simp [ChangeMaps.setBlock],fun i _ hi => ChangeMaps.heap_setBlock_other hb _ (fun e => hi (by rw [e]))⟩⟩
 · simp [Instr.mapUpdate,run_underlying hM,MapKept.run_getObj_map hb,K.chk,hk,MapKept.run_setObj_map _ hb,Result.andThen,ChangeMaps.setBlock,entryG]
 · rcases List.mem_append.1 he with g | g
   · have := hs e g; omega
   · rw [List.mem_singleton.1 g]; exact Nat.lt_succ_self c
theorem MapS.entry {P : Program} {M T E : TypeId} {D : TypeDesc} {key : κ → Value} {ve : β → Value} (K : KeyG P T D key) (hM : P.underlying M = some (.map T E)) {z : β} (hz : ∀ w,(zeroValue E).run P w = .ok (ve z) w) {w : World} {b : Nat} {f : κ → Option β} (h : MapS key ve w b f) (y : κ) (hy : f y = none) :
 ∃ (w' : World) (c : Nat),(Instr.mapEntry M (.map (some b)) (key y)).run P w = .ok (.tuple #[ve z,.int .i64 (c : Int)]) w' ∧ MapW key ve w' b f y z c ∧ w.grownBy w' (some b) := by
 obtain ⟨l,c,hb,hf,hs⟩ := h
 have hk := findKeyG_run (ve := ve) K y w l
 have hj := valG_fresh ((hf y).symm.trans hy)
 rw [hj] at hk
 simp only [Option.bind_none] at hk
 refine ⟨ChangeMaps.setBlock w b (.map ((l ++ [(y,z,c)]).map (entryG key ve)).toArray (c + 1)),c,?_,⟨l,ChangeMaps.heap_setBlock_same hb _,hf,hy,hs⟩,
  ⟨rfl,rfl,rfl,by simp [ChangeMaps.setBlock],fun i _ hi => ChangeMaps.heap_setBlock_other hb _ (fun e => hi (by rw [e]))⟩⟩
 simp [Instr.mapEntry,run_underlying hM,MapKept.run_getObj_map hb,K.chk,hk,hz,MapKept.run_setObj_map _ hb,Result.andThen,ChangeMaps.setBlock,entryG,goInt]
theorem MapW.fill {P : Program} {M : TypeId} {key : κ → Value} {ve : β → Value} {w : World} {b : Nat} {f : κ → Option β} {y : κ} {z : β} {c : Nat} (h : MapW key ve w b f y z c) (v : β) :
 ∃ w',(Instr.entryStore M (.map (some b)) (.int .i64 (c : Int)) (ve v)).run P w = .ok () w' ∧ MapS key ve w' b (fun u => if u = y then some v else f u) ∧ w.grownBy w' (some b) := by
 obtain ⟨l,hb,hf,hy,hs⟩ := h
 have hj := valG_fresh ((hf y).symm.trans hy)
 have hidx : ((l ++ [(y,z,c)]).map (entryG key ve)).toArray.findIdx? (fun e => ((e.born : Nat) : Int) == ((c : Nat) : Int)) = some l.length := by
  rw [WideElems.findIdx_arr,List.toList_toArray,List.findIdx?_eq_some_iff_getElem]
  refine ⟨by simp,by simp [entryG],fun j hj => ?_⟩
  have hjl : j < l.length := hj
  have : ((l ++ [(y,z,c)]).map (entryG key ve))[j]'(by simp; omega) = entryG key ve l[j] := by
   rw [List.getElem_map,List.getElem_append_left hjl]
  rw [this]
  have h2 := hs l[j] (List.getElem_mem hjl)
  simp only [entryG,beq_iff_eq]
  omega
 refine ⟨ChangeMaps.setBlock w b (.map ((l ++ [(y,v,c)]).map (entryG key ve)).toArray (c + 1)),?_,⟨l ++ [(y,v,c)],c + 1,ChangeMaps.heap_setBlock_same hb _,fun u => by rw [findG_push hj]; simp only [hf],fun e he => ?_⟩,
  ⟨rfl,rfl,rfl,by simp [ChangeMaps.setBlock],fun i _ hi => ChangeMaps.heap_setBlock_other hb _ (fun e => hi (by rw [e]))⟩⟩
 · have hmod : ((l ++ [(y,z,c)]).map (entryG key ve)).toArray.modify l.length (fun e => { e with val := ve v }) = ((l ++ [(y,v,c)]).map (entryG key ve)).toArray := by
    apply Array.ext'
    rw [Array.toList_modify]
    simp only [List.map_append,List.map_cons,List.map_nil]
    have := WideElems.modify_last (fun e : MapEntry => { e with val := ve v }) (entryG key ve (y,z,c)) (l.map (entryG key ve))
    rw [List.length_map] at this
    exact this
   simp only [List.map_append,List.map_cons,List.map_nil] at hidx hmod hb
   simp [Instr.entryStore,MapKept.run_getObj_map hb,asInt,asIntOf,hidx,hmod,MapKept.run_setObj_map _ hb,Result.andThen,ChangeMaps.setBlock]
 · rcases List.mem_append.1 he with g | g
   · have := hs e g; omega
   · rw [List.mem_singleton.1 g]; exact Nat.lt_succ_self c

variable {n : Nat} {w0 w : World} {es : List Ent} {P : Program} {ops : Array Oper} {o : Oper} {a : Act} {K' : Act → World → Prop} {Q : Exit → Act → World → Prop} {F : Prop}
end
end
section

structure BwdD (a : Au) (N : Nat) (tq fs : List Int) (d : Nat → Int) (h k : Nat) : Prop where
 b : Bwd a N tq fs d h k
 up : ∀ (i j : Nat) u v,i ≤ j → fs[i]? = some u → fs[j]? = some v → d u.toNat ≤ d v.toNat
 one : ∀ v w,v ∈ fs → fs[h]? = some w → d v.toNat ≤ d w.toNat + 1
 dz : ∀ v,v ∈ fs → (d v.toNat = 0 ↔ v ∈ tq)
 pr : ∀ v,v ∈ fs → d v.toNat ≠ 0 → ∃ e,nextV a.ed v e ∈ fs ∧ d v.toNat = d (nextV a.ed v e).toNat + 1
 ed : ∀ (j q : Nat) v p,fs[j]? = some v → (predsOf a.ed v.toNat)[q]? = some p → (j < h ∨ j = h ∧ q < k) → d p.toNat ≤ d v.toNat + 1
 lo : ∀ s : Nat,-1 ≤ d s
section
variable {a : Au} {N h k : Nat} {tq fs : List Int} {d : Nat → Int}
theorem BwdD.next (B : BwdD a N tq fs d h k) {v : Int} (hv : fs[h]? = some v) (hk : (predsOf a.ed v.toNat).length ≤ k) : BwdD a N tq fs d (h + 1) 0 :=
 ⟨B.b.next hv hk,B.up,fun u w hu hw => by
  have h1 := B.one u v hu hv
  have h2 := B.up h (h + 1) v w (by omega) hv hw
  omega,B.dz,B.pr,fun j q u p hu hp hc => by
  by_cases g : j < h
  · exact B.ed j q u p hu hp (.inl g)
  · obtain rfl : j = h := by omega
    rw [hv] at hu; cases hu
    have := (List.getElem?_eq_some_iff.1 hp).1
    exact B.ed j q v p hv hp (.inr ⟨rfl,by omega⟩),B.lo⟩
theorem BwdD.old (B : BwdD a N tq fs d h k) {v p : Int} (hv : fs[h]? = some v) (hp : (predsOf a.ed v.toNat)[k]? = some p) (hm : p ∈ fs) : BwdD a N tq fs d h (k + 1) :=
 ⟨B.b.old hv hp hm,B.up,B.one,B.dz,B.pr,fun j q u p' hu hp' hc => by
  by_cases g : j < h ∨ j = h ∧ q < k
  · exact B.ed j q u p' hu hp' g
  · obtain ⟨rfl,rfl⟩ : j = h ∧ q = k := by omega
    rw [hv] at hu; cases hu
    rw [hp] at hp'; cases hp'
    exact B.one p v hm hv,B.lo⟩
theorem BwdD.new (hr : a.Right) (hN : a.n = N) (B : BwdD a N tq fs d h k) {v p : Int} (hv : fs[h]? = some v) (hp : (predsOf a.ed v.toNat)[k]? = some p) (hm : ¬ p ∈ fs) :
 BwdD a N tq (fs ++ [p]) (fun s => if s = p.toNat then d v.toNat + 1 else d s) h (k + 1) := by
 have hvm := List.mem_of_getElem? hv
 have hvr := B.b.rg v hvm
 obtain ⟨x,hx,x1,x2⟩ := mem_predsOf.1 (List.mem_of_getElem? hp)
 have hn := edge_next hr hx
 have hp0 : 0 ≤ p ∧ p < N := by rw [← x2]; omega
 have hd0 : 0 ≤ d v.toNat := (B.b.mem v.toNat (by omega)).2 (by rw [Int.toNat_of_nonneg hvr.1]; exact hvm)
 have old : ∀ u,u ∈ fs → (if u.toNat = p.toNat then d v.toNat + 1 else d u.toNat) = d u.toNat := fun u hu => by
  have h2 := B.b.rg u hu
  have : u ≠ p := fun e => hm (by rw [← e]; exact hu)
  rw [if_neg (by omega)]
 have new : (if p.toNat = p.toNat then d v.toNat + 1 else d p.toNat) = d v.toNat + 1 := if_pos rfl
 have hv' : (fs ++ [p])[h]? = some v := get_keep hv _
 refine ⟨B.b.new hr hN hv hp hm,fun i j u u' hij hu hu' => ?_,fun u w hu hw => ?_,fun u hu => ?_,fun u hu h0 => ?_,fun j q u p' hu hp' hc => ?_,fun s => by
  show -1 ≤ (if s = p.toNat then d v.toNat + 1 else d s)
  have := B.lo s
  split <;> omega⟩
 · rcases getElem?_snoc hu' with g' | ⟨g',rfl⟩
   · have hj := (List.getElem?_eq_some_iff.1 g').1
     have g : fs[i]? = some u := by rwa [List.getElem?_append_left (by omega)] at hu
     show (if u.toNat = p.toNat then d v.toNat + 1 else d u.toNat) ≤ (if u'.toNat = p.toNat then d v.toNat + 1 else d u'.toNat)
     rw [old u (List.mem_of_getElem? g),old u' (List.mem_of_getElem? g')]
     exact B.up i j u u' hij g g'
   · show (if u.toNat = u'.toNat then d v.toNat + 1 else d u.toNat) ≤ (if u'.toNat = u'.toNat then d v.toNat + 1 else d u'.toNat)
     rw [new]
     rcases getElem?_snoc hu with g | ⟨_,rfl⟩
     · rw [old u (List.mem_of_getElem? g)]
       exact B.one u v (List.mem_of_getElem? g) hv
     · rw [new]; exact Int.le_refl _
 · rw [hv'] at hw; cases hw
   show (if u.toNat = p.toNat then d v.toNat + 1 else d u.toNat) ≤ (if v.toNat = p.toNat then d v.toNat + 1 else d v.toNat) + 1
   rw [old v hvm]
   rcases List.mem_append.1 hu with g | g
   · rw [old u g]; exact B.one u v g hv
   · rw [List.mem_singleton.1 g,new]; exact Int.le_refl _
 · show (if u.toNat = p.toNat then d v.toNat + 1 else d u.toNat) = 0 ↔ u ∈ tq
   rcases List.mem_append.1 hu with g | g
   · rw [old u g]; exact B.dz u g
   · rw [List.mem_singleton.1 g,new]
     exact ⟨fun e => by omega,fun e => absurd (B.b.tgt p e) hm⟩
 · have h0' : (if u.toNat = p.toNat then d v.toNat + 1 else d u.toNat) ≠ 0 := h0
   show ∃ e,nextV a.ed u e ∈ fs ++ [p] ∧ (if u.toNat = p.toNat then d v.toNat + 1 else d u.toNat) = (if (nextV a.ed u e).toNat = p.toNat then d v.toNat + 1 else d (nextV a.ed u e).toNat) + 1
   rcases List.mem_append.1 hu with g | g
   · rw [old u g] at h0' ⊢
     obtain ⟨e,e1,e2⟩ := B.pr u g h0'
     exact ⟨e,List.mem_append_left _ e1,by rw [old _ e1]; exact e2⟩
   · rw [List.mem_singleton.1 g,new]
     have e3 : nextV a.ed p x.ev = v := by rw [← x2,hn.1,x1,Int.toNat_of_nonneg hvr.1]
     exact ⟨x.ev,by rw [e3]; exact List.mem_append_left _ hvm,by rw [e3,old v hvm]⟩
 · show (if p'.toNat = p.toNat then d v.toNat + 1 else d p'.toNat) ≤ (if u.toNat = p.toNat then d v.toNat + 1 else d u.toNat) + 1
   rcases getElem?_snoc hu with g | ⟨g,rfl⟩
   · rw [old u (List.mem_of_getElem? g)]
     by_cases c : j < h ∨ j = h ∧ q < k
     · rw [old p' (B.b.cl j q u p' g hp' c)]
       exact B.ed j q u p' g hp' c
     · obtain ⟨rfl,rfl⟩ : j = h ∧ q = k := by omega
       rw [hv] at g; cases g
       rw [hp] at hp'; cases hp'
       rw [new]; exact Int.le_refl _
   · have := (List.getElem?_eq_some_iff.1 hv).1
     omega
theorem BwdD.start (hnd : tq.Nodup) (hrg : ∀ v,v ∈ tq → 0 ≤ v ∧ v < N) : BwdD a N tq tq (fun s => if (s : Int) ∈ tq then 0 else -1) 0 0 := by
 have z : ∀ v,v ∈ tq → (if ((v.toNat : Nat) : Int) ∈ tq then (0 : Int) else -1) = 0 := fun v hv => by
  have := hrg v hv
  rw [Int.toNat_of_nonneg this.1,if_pos hv]
 exact ⟨Bwd.start hnd hrg,fun i j u v _ hu hv => by
  show (if ((u.toNat : Nat) : Int) ∈ tq then (0 : Int) else -1) ≤ (if ((v.toNat : Nat) : Int) ∈ tq then (0 : Int) else -1)
  rw [z u (List.mem_of_getElem? hu),z v (List.mem_of_getElem? hv)]; exact Int.le_refl _,fun v w hv hw => by
  show (if ((v.toNat : Nat) : Int) ∈ tq then (0 : Int) else -1) ≤ (if ((w.toNat : Nat) : Int) ∈ tq then (0 : Int) else -1) + 1
  rw [z v hv,z w (List.mem_of_getElem? hw)]; decide,fun v hv => ⟨fun _ => hv,fun _ => z v hv⟩,fun v hv h => absurd (z v hv) h,fun j q v p _ _ h => by omega,fun s => by show -1 ≤ (if (s : Int) ∈ tq then (0 : Int) else -1); split <;> omega⟩
def DistOk (a : Au) (N : Nat) (tq : List Int) (d : Nat → Int) : Prop := ∀ s : Nat,s < N → (0 ≤ d s ↔ ∃ w,runV a.ed s w ∈ tq) ∧ (0 ≤ d s → ∃ w : List Int,(w.length : Int) = d s ∧ runV a.ed s w ∈ tq) ∧ (∀ w : List Int,runV a.ed s w ∈ tq → d s ≤ w.length) ∧ -1 ≤ d s
theorem BwdD.fin (hr : a.Right) (hN : a.n = N) (hto : ∀ v,v ∈ tq → 0 ≤ v) (B : BwdD a N tq fs d fs.length k) : DistOk a N tq d := by
 have hcl : ∀ v e,0 ≤ v → nextV a.ed v e ∈ fs → v ∈ fs ∧ d v.toNat ≤ d (nextV a.ed v e).toNat + 1 := by
  intro v e hv hu
  have g0 := (B.b.rg _ hu).1
  rcases hr.next_cases v e with g | ⟨_,_,x,hx,x1,x2,x3⟩
  · omega
  · obtain ⟨j,hj,hju⟩ := List.mem_iff_getElem.1 hu
    have hpm : v ∈ predsOf a.ed (nextV a.ed v e).toNat := mem_predsOf.2 ⟨x,hx,by rw [x3,Int.toNat_of_nonneg g0],x1⟩
    obtain ⟨q,hq,hqv⟩ := List.mem_iff_getElem.1 hpm
    exact ⟨B.b.cl j q _ v (by rw [List.getElem?_eq_getElem hj,hju]) (by rw [List.getElem?_eq_getElem hq,hqv]) (.inl hj),B.ed j q _ v (by rw [List.getElem?_eq_getElem hj,hju]) (by rw [List.getElem?_eq_getElem hq,hqv]) (.inl hj)⟩
 have key : ∀ (w : List Int) (v : Int),0 ≤ v → runV a.ed v w ∈ tq → v ∈ fs ∧ d v.toNat ≤ w.length := by
  intro w
  induction w with
  | nil =>
    intro v _ h
    have hm := B.b.tgt v h
    exact ⟨hm,by rw [(B.dz v hm).2 h]; exact Int.le_refl _⟩
  | cons e r ih =>
    intro v hv h
    simp only [runV,hv,if_true] at h
    rcases hr.next_cases v e with g | ⟨g0,_⟩
    · rw [g,runV_neg _ (by omega)] at h
      have := hto _ h; omega
    · obtain ⟨h1,h2⟩ := ih _ g0 h
      obtain ⟨h3,h4⟩ := hcl v e hv h1
      exact ⟨h3,by simp only [List.length_cons]; omega⟩
 have ex : ∀ (n : Nat) (v : Int),v ∈ fs → d v.toNat = n → ∃ w : List Int,w.length = n ∧ runV a.ed v w ∈ tq := by
  intro n
  induction n with
  | zero => intro v hv h0; exact ⟨[],rfl,(B.dz v hv).1 h0⟩
  | succ n ih =>
    intro v hv h0
    obtain ⟨e,h1,h2⟩ := B.pr v hv (by omega)
    obtain ⟨w,hw1,hw2⟩ := ih _ h1 (by omega)
    have hv0 := (B.b.rg v hv).1
    exact ⟨e :: w,by simp [hw1],by simp only [runV,hv0,if_true]; exact hw2⟩
 intro s hs
 refine ⟨B.b.fin hr hN hto hs,fun h0 => ?_,fun w hw => ?_,B.lo s⟩
 · have hm := (B.b.mem s hs).1 h0
   obtain ⟨n,hn⟩ := Int.eq_ofNat_of_zero_le h0
   obtain ⟨w,h1,h2⟩ := ex n s hm (by rw [Int.toNat_natCast]; exact hn)
   exact ⟨w,by rw [h1,hn],h2⟩
 · have := (key w s (Int.natCast_nonneg _) hw).2
   rwa [Int.toNat_natCast] at this
end
end
def GivesBD (a : Au) (tg : List Int) (w : World) (e : Ending) (w' : World) : Prop := ∃ g d,e = .returned (.slice (some ⟨g,0,none⟩) a.n.toNat a.n.toNat) ∧ Hid (Sep w.heap.size w [eBlk g 3 (mkI a.n.toNat d)] w') ∧ Hid (DistOk a a.n.toNat tg d)
set_option maxHeartbeats 8000000 in
theorem backwardD_c (a : Au) (p : AuP) (g0 : Nat) (AT : Option Addr) (cT : Nat) (tg : List Int) (w : World) (hr : a.Right) (hA : Au.At w a p) (hT : IntsAt w AT tg) (hnd : tg.Nodup) (hrg : ∀ v,v ∈ tg → 0 ≤ v ∧ v < a.n) :
 Calls Tryz.prog 103 #[.agg (grCells a p g0).toArray,.slice AT tg.length cT] w (GivesBD a tg w) := by
 have h0 := hr.n0
 have hn := hr.n1
 have HS : Hid (∀ (i : Nat) x,a.ed[i]? = some x → (0 ≤ x.src ∧ x.src < a.n) ∧ 0 ≤ x.dst ∧ x.dst < a.n) := fun i x hx => ⟨⟨(hr.edge hx).1,(hr.edge hx).2.1⟩,(hr.edge hx).2.2.1,(hr.edge hx).2.2.2.1⟩
 have HE := Lib.hid hA.ed
 have hle := ed_len hr
 have HR := Lib.hid hr
 obtain ⟨al,n,mr,ed⟩ := a
 obtain ⟨A1,c1,A2,c2,A3,c3⟩ := p
 obtain ⟨N,rfl⟩ := Int.eq_ofNat_of_zero_le h0
 dsimp only [grCells] at HS hn HE hle hrg ⊢
 have B0 : Hid (BwdD ⟨al,N,mr,ed⟩ N tg tg (fun s => if (s : Int) ∈ tg then (0 : Int) else -1) 0 0) := BwdD.start hnd hrg
 have htl : tg.length ≤ N := B0.out.b.len
 have HRG := Lib.hid hrg
 have HT := Lib.hid hT
 have HNN : Hid (∀ v,v ∈ tg → 0 ≤ v) := fun v hv => (hrg v hv).1
 have hmk := make_run (P := Tryz.prog) 47 31 (.slice none 0 0) 24 Tryz.underlying47 intsInfo rfl N (by omega) (by omega)
 have hmk2 := make_run (P := Tryz.prog) 31 3 (.int .i64 0) 8 Tryz.underlying31 intInfo rfl N (by omega) (by omega)
 clear hr hA h0 hT hnd hrg
 rw [show ((N : Int).toNat + 1) = N + 1 from rfl]
 go_enter Tryz.func103,Tryz.ntmps103
 go_upto_region 1 with fail
 refine wp_world (fun W => Sep w.heap.size w [eBlk w.heap.size 140 [.slice A1 al.length c1,.int .i64 (N : Int),.slice A2 mr.length c2,.slice A3 ed.length c3,.slice (some ⟨g0,0,none⟩) (N + 1) (N + 1)]] W) ((Sep.here w).alloc' _ [_,_,_,_,_] rfl rfl) fun W S => ?_
 have S0 := Lib.hid S
 clear S
 have b1 := qkC S0.out 0 rfl 1 rfl
 obtain ⟨gi,hgi⟩ : ∃ gi,gi = W.heap.size := ⟨_,rfl⟩
 go_upto_region 2 with fail
 rw [← hgi]
 refine wp_world (fun W2 => Sep w.heap.size w ([eBlk gi 31 ((List.range N).map fun _ => .slice none 0 0),eBlk w.heap.size 140 [.slice A1 al.length c1,.int .i64 (N : Int),.slice A2 mr.length c2,.slice A3 ed.length c3,.slice (some ⟨g0,0,none⟩) (N + 1) (N + 1)]] ++ rowsE N (fun s => predsOf (ed.take 0) s) (fun _ => .slice none 0 0)) W2) ?_ fun W2 S => ?_
 · have h := (S0.out.alloc' 31 (List.replicate N (.slice none 0 0)) (o := Obj.cells (Array.replicate N (.slice none 0 0)) 31) (by simp) hgi).rows N
   rw [rowsV_rep] at h
   exact h
 have S1 := Lib.hid S
 clear S S0 b1 hgi hmk
 have b3 := qkC S1.out 1 rfl 3 rfl
 go_wp2_with fail
 go_loopw [24] (fun i wr => ∃ (k : Nat) (vs : Nat → Value),i = .int .i64 k ∧ k ≤ ed.length ∧ Hid (Sep w.heap.size w ([eBlk gi 31 ((List.range N).map vs),eBlk w.heap.size 140 [.slice A1 al.length c1,.int .i64 (N : Int),.slice A2 mr.length c2,.slice A3 ed.length c3,.slice (some ⟨g0,0,none⟩) (N + 1) (N + 1)]] ++ rowsE N (fun s => predsOf (ed.take k) s) vs) wr)) (fun i _ => ed.length - (intOf i).toNat)
 case atStart => exact ⟨0,fun _ => .slice none 0 0,rfl,Nat.zero_le _,S1.out⟩
 case round =>
  clear S1 b3
  obtain ⟨k,vs,rfl,hk,S⟩ := hrel
  by_cases hlt : k < ed.length
  · obtain ⟨b,off,x,hAe,hb,hx,y0,y1,y2⟩ := EdsAt.at (HE.out.below EdE.stays S.out.below) hlt
    subst hAe
    obtain ⟨s,hs⟩ := Int.eq_ofNat_of_zero_le (HS.out k x hx).1.1
    obtain ⟨d,hd⟩ := Int.eq_ofNat_of_zero_le (HS.out k x hx).2.1
    have hdN : d < N := by have := (HS.out k x hx).2.2; omega
    obtain ⟨ye,hye⟩ : ∃ z,z = x.ev := ⟨_,rfl⟩
    have HLS : Hid (upd (fun s => predsOf (ed.take k) s) d (predsOf (ed.take k) d ++ [(s : Int)]) = fun s => predsOf (ed.take (k + 1)) s) := by
     funext t
     rw [List.take_add_one,hx,Option.toList_some,predsOf_snoc,hd,hs]
     by_cases e : t = d
     · subst e; rw [upd_same,if_pos rfl]
     · rw [upd_other e,if_neg (by omega)]
    have hpl : (predsOf (ed.take k) d).length ≤ 1048576 := by
     have h1 := predsOf_len (ed.take k) d
     rw [List.length_take] at h1
     omega
    rw [hs] at y0
    rw [← hye] at y1
    rw [hd] at y2
    clear hx hs hd hye hb
    go_upto_region 5 with fail
    refine wp_world (fun W => ∃ bx,bx = wr.heap.size ∧ Sep w.heap.size w ([eBlk bx 76 [.int .i64 (s : Int),.int .i64 ye,.int .i64 (d : Int)],eBlk gi 31 ((List.range N).map vs),eBlk w.heap.size 140 [.slice A1 al.length c1,.int .i64 (N : Int),.slice A2 mr.length c2,.slice (some ⟨b,off,none⟩) ed.length c3,.slice (some ⟨g0,0,none⟩) (N + 1) (N + 1)]] ++ rowsE N (fun s => predsOf (ed.take k) s) vs) W) ⟨_,rfl,S.out.alloc' _ [_,_,_] rfl rfl⟩ fun W S' => ?_
    obtain ⟨bx,hbx,S'⟩ := S'
    rw [← hbx]
    have S3 := Lib.hid S'
    clear S' hbx S y0 y1 y2
    obtain ⟨AR,cR,hvd⟩ := S3.out.form (3 + d) (rowsE_get (A := [_,_,_]) hdN)
    have HVD := Lib.hid hvd
    clear hvd
    have S1 := Lib.hid S3.out.drew
    refine wp_region_held_drew (S := (fun V => Sep w.heap.size w [eBlk bx 76 [.int .i64 (s : Int),.int .i64 ye,.int .i64 (d : Int)]] V)) (by kernel_rfl) ?_ (fun hHeld => ?_)
    · exact S1.out.left.pick [0] (by decide)
    generalize hwz : W.drew = w1 at *
    clear hwz
    refine tkP 0 rfl hHeld ?_
    try simp only [sx]
    refine tkP 1 rfl hHeld ?_
    try simp only [sx]
    refine tkH 2 rfl (v := ?_) (by kernel_rfl) ?_ hHeld ?_
    rotate_left
    · intro V hSw
      have b0 := qkC hSw 0 rfl 0 rfl
      have b2 := qkC hSw 0 rfl 2 rfl
      clear hSw
      first | (go_simp; done) | (go_simp; with_reducible rfl)
    try simp only [sx]
    refine tkP 3 rfl hHeld ?_
    try simp only [sx]
    refine tkP 4 rfl hHeld ?_
    try simp only [sx]
    refine tkH 5 rfl (v := ?_) (by kernel_rfl) ?_ hHeld ?_
    rotate_left
    · intro V hSw
      have b0 := qkC hSw 0 rfl 0 rfl
      have b2 := qkC hSw 0 rfl 2 rfl
      clear hSw
      first | (go_simp; done) | (go_simp; with_reducible rfl)
    try simp only [sx]
    refine tkP 6 rfl hHeld ?_
    try simp only [sx]
    refine tkP 8 rfl hHeld ?_
    try simp only [sx]
    refine tkH 9 rfl (v := ?_) (by kernel_rfl) ?_ hHeld ?_
    rotate_left
    · intro V hSw
      have b0 := qkC hSw 0 rfl 0 rfl
      have b2 := qkC hSw 0 rfl 2 rfl
      clear hSw
      first | (go_simp; done) | (go_simp; with_reducible rfl)
    try simp only [sx]
    refine wpAnyH_ready (rs := [7,10]) (by kernel_rfl) (by simp) ?_
    refine AllReadyH.cons rfl (fun K hK => ?_) (AllReadyH.cons rfl (fun K hK => ?_) AllReadyH.nil)
    · skip
      have il := (BlkAt.cell (S1.out.get 1 rfl) d).trans (rowsV_get hdN)
      rw [HVD.out] at il
      go_simp
      refine hK.out _ _ ?_ (fun hHeld => ?_)
      · exact S1.out.left.pick [0] (by decide)
      clear hK K
      try simp only [sx]
      refine rdH 10 rfl fun K hK => ?_
      go_simp
      obtain ⟨nnw,hnnw⟩ : ∃ n,n = w1.heap.size := ⟨_,rfl⟩
      obtain ⟨w2,hw2⟩ : ∃ v,v = w1.alloc (.cells #[(.int .i64 (s : Int))] 3) := ⟨_,rfl⟩
      rw [← hw2,← hnnw]
      have S2 : Hid (Sep w.heap.size w ([eBlk nnw 3 [(.int .i64 (s : Int))],eBlk bx 76 [.int .i64 (s : Int),.int .i64 ye,.int .i64 (d : Int)],eBlk gi 31 ((List.range N).map vs),eBlk w.heap.size 140 [.slice A1 al.length c1,.int .i64 (N : Int),.slice A2 mr.length c2,.slice (some ⟨b,off,none⟩) ed.length c3,.slice (some ⟨g0,0,none⟩) (N + 1) (N + 1)]] ++ rowsE N (fun s => predsOf (ed.take k) s) vs) w2) := by rw [hw2,hnnw]; exact S1.out.alloc 3 [(.int .i64 (s : Int))]
      skip
      clear hw2 hnnw
      refine hK.out _ _ ?_ (fun hHeld => ?_)
      · exact S2.out.left.pick [1] (by decide)
      clear hK K
      try simp only [sx]
      refine rdH 11 rfl fun K hK => ?_
      refine step_pushS rfl (.tmp 35) (.tmp 38) 31 rfl S2.out (4 + d) (rowsE_get (A := [_,_,_,_]) hdN) Tryz.underlying31 _ 8 intInfo rfl (by decide) HVD.out.symm (s : Int) nnw rfl rfl (fun j u hj => (BlkAt.cell (S2.out.get 0 rfl) j).trans hj) (encI_one _) hpl (by decide) ?_
      intro AR2 cR2 w3 S3' _
      have S3 : Hid (Sep w.heap.size w ([eBlk nnw 3 [(.int .i64 (s : Int))],eBlk bx 76 [.int .i64 (s : Int),.int .i64 ye,.int .i64 (d : Int)],eBlk gi 31 ((List.range N).map vs),eBlk w.heap.size 140 [.slice A1 al.length c1,.int .i64 (N : Int),.slice A2 mr.length c2,.slice (some ⟨b,off,none⟩) ed.length c3,.slice (some ⟨g0,0,none⟩) (N + 1) (N + 1)]] ++ rowsE N (upd (fun s => predsOf (ed.take k) s) d (predsOf (ed.take k) d ++ [(s : Int)])) (upd vs d (.slice AR2 ((predsOf (ed.take k) d).length + 1) cR2))) w3) := (congrArg (fun es => Sep w.heap.size w es w3) (rowsE_set (A := [_,_,_,_]) hdN _ _)).mp S3'
      clear S3'
      refine hK.out _ _ ?_ (fun hHeld => ?_)
      · exact S3.out.left.pick [1] (by decide)
      clear hK K
      try simp only [sx]
      refine tkP 12 rfl hHeld ?_
      try simp only [sx]
      refine rdH 13 rfl fun K hK => ?_
      have sc := (BlkAt.cell (S3.out.get 2 rfl) d).trans (rowsV_get hdN)
      have sf := BlkAt.free (S3.out.get 2 rfl) d
      rw [HVD.out] at sc
      go_simp
      obtain ⟨w4,hw4⟩ : ∃ v,v = w3.setCell ⟨gi,d,none⟩ (.slice AR2 ((predsOf (ed.take k) d).length + 1) cR2) := ⟨_,rfl⟩
      rw [← hw4]
      have S4 : Hid (Sep w.heap.size w ([eBlk nnw 3 [(.int .i64 (s : Int))],eBlk bx 76 [.int .i64 (s : Int),.int .i64 ye,.int .i64 (d : Int)],eBlk gi 31 ((List.range N).map (upd vs d (.slice AR2 ((predsOf (ed.take k) d).length + 1) cR2))),eBlk w.heap.size 140 [.slice A1 al.length c1,.int .i64 (N : Int),.slice A2 mr.length c2,.slice (some ⟨b,off,none⟩) ed.length c3,.slice (some ⟨g0,0,none⟩) (N + 1) (N + 1)]] ++ rowsE N (upd (fun s => predsOf (ed.take k) s) d (predsOf (ed.take k) d ++ [(s : Int)])) (upd vs d (.slice AR2 ((predsOf (ed.take k) d).length + 1) cR2))) w4) := by
       have h := S3.out.set 2 rfl d (.slice AR2 ((predsOf (ed.take k) d).length + 1) cR2)
       rw [rowsV_set hdN] at h
       rw [hw4]
       exact h
      clear hw4 sc sf
      refine hK.out _ _ ?_ (fun hHeld => ?_)
      · exact S4.out.left.pick [1] (by decide)
      clear hK K
      try simp only [sx]
      refine wpAnyH_done (by kernel_rfl) ?_ _
      go_wp2_with fail
      go_roundw
      case rel => exact ⟨k + 1,upd vs d (.slice AR2 ((predsOf (ed.take k) d).length + 1) cR2),by go_num,by omega,by have h := S4.out.drop1.drop1; rw [HLS.out] at h; exact h⟩
      case measure => simp [intOf]; omega
    · skip
      go_simp
      obtain ⟨nnw,hnnw⟩ : ∃ n,n = w1.heap.size := ⟨_,rfl⟩
      obtain ⟨w5,hw5⟩ : ∃ v,v = w1.alloc (.cells #[(.int .i64 (s : Int))] 3) := ⟨_,rfl⟩
      rw [← hw5,← hnnw]
      have S5 : Hid (Sep w.heap.size w ([eBlk nnw 3 [(.int .i64 (s : Int))],eBlk bx 76 [.int .i64 (s : Int),.int .i64 ye,.int .i64 (d : Int)],eBlk gi 31 ((List.range N).map vs),eBlk w.heap.size 140 [.slice A1 al.length c1,.int .i64 (N : Int),.slice A2 mr.length c2,.slice (some ⟨b,off,none⟩) ed.length c3,.slice (some ⟨g0,0,none⟩) (N + 1) (N + 1)]] ++ rowsE N (fun s => predsOf (ed.take k) s) vs) w5) := by rw [hw5,hnnw]; exact S1.out.alloc 3 [(.int .i64 (s : Int))]
      skip
      clear hw5 hnnw
      refine hK.out _ _ ?_ (fun hHeld => ?_)
      · exact S5.out.left.pick [1] (by decide)
      clear hK K
      try simp only [sx]
      refine rdH 7 rfl fun K hK => ?_
      have il := (BlkAt.cell (S5.out.get 2 rfl) d).trans (rowsV_get hdN)
      rw [HVD.out] at il
      go_simp
      refine hK.out _ _ ?_ (fun hHeld => ?_)
      · exact S5.out.left.pick [1] (by decide)
      clear hK K
      try simp only [sx]
      refine rdH 11 rfl fun K hK => ?_
      refine step_pushS rfl (.tmp 35) (.tmp 38) 31 rfl S5.out (4 + d) (rowsE_get (A := [_,_,_,_]) hdN) Tryz.underlying31 _ 8 intInfo rfl (by decide) HVD.out.symm (s : Int) nnw rfl rfl (fun j u hj => (BlkAt.cell (S5.out.get 0 rfl) j).trans hj) (encI_one _) hpl (by decide) ?_
      intro AR2 cR2 w6 S6' _
      have S6 : Hid (Sep w.heap.size w ([eBlk nnw 3 [(.int .i64 (s : Int))],eBlk bx 76 [.int .i64 (s : Int),.int .i64 ye,.int .i64 (d : Int)],eBlk gi 31 ((List.range N).map vs),eBlk w.heap.size 140 [.slice A1 al.length c1,.int .i64 (N : Int),.slice A2 mr.length c2,.slice (some ⟨b,off,none⟩) ed.length c3,.slice (some ⟨g0,0,none⟩) (N + 1) (N + 1)]] ++ rowsE N (upd (fun s => predsOf (ed.take k) s) d (predsOf (ed.take k) d ++ [(s : Int)])) (upd vs d (.slice AR2 ((predsOf (ed.take k) d).length + 1) cR2))) w6) := (congrArg (fun es => Sep w.heap.size w es w6) (rowsE_set (A := [_,_,_,_]) hdN _ _)).mp S6'
      clear S6'
      refine hK.out _ _ ?_ (fun hHeld => ?_)
      · exact S6.out.left.pick [1] (by decide)
      clear hK K
      try simp only [sx]
      refine tkP 12 rfl hHeld ?_
      try simp only [sx]
      refine rdH 13 rfl fun K hK => ?_
      have sc := (BlkAt.cell (S6.out.get 2 rfl) d).trans (rowsV_get hdN)
      have sf := BlkAt.free (S6.out.get 2 rfl) d
      rw [HVD.out] at sc
      go_simp
      obtain ⟨w7,hw7⟩ : ∃ v,v = w6.setCell ⟨gi,d,none⟩ (.slice AR2 ((predsOf (ed.take k) d).length + 1) cR2) := ⟨_,rfl⟩
      rw [← hw7]
      have S7 : Hid (Sep w.heap.size w ([eBlk nnw 3 [(.int .i64 (s : Int))],eBlk bx 76 [.int .i64 (s : Int),.int .i64 ye,.int .i64 (d : Int)],eBlk gi 31 ((List.range N).map (upd vs d (.slice AR2 ((predsOf (ed.take k) d).length + 1) cR2))),eBlk w.heap.size 140 [.slice A1 al.length c1,.int .i64 (N : Int),.slice A2 mr.length c2,.slice (some ⟨b,off,none⟩) ed.length c3,.slice (some ⟨g0,0,none⟩) (N + 1) (N + 1)]] ++ rowsE N (upd (fun s => predsOf (ed.take k) s) d (predsOf (ed.take k) d ++ [(s : Int)])) (upd vs d (.slice AR2 ((predsOf (ed.take k) d).length + 1) cR2))) w7) := by
       have h := S6.out.set 2 rfl d (.slice AR2 ((predsOf (ed.take k) d).length + 1) cR2)
       rw [rowsV_set hdN] at h
       rw [hw7]
       exact h
      clear hw7 sc sf
      refine hK.out _ _ ?_ (fun hHeld => ?_)
      · exact S7.out.left.pick [1] (by decide)
      clear hK K
      try simp only [sx]
      refine wpAnyH_done (by kernel_rfl) ?_ _
      go_wp2_with fail
      go_roundw
      case rel => exact ⟨k + 1,upd vs d (.slice AR2 ((predsOf (ed.take k) d).length + 1) cR2),by go_num,by omega,by have h := S7.out.drop1.drop1; rw [HLS.out] at h; exact h⟩
      case measure => simp [intOf]; omega
  · obtain rfl : k = ed.length := by omega
    have S2 : Hid (Sep w.heap.size w ([eBlk gi 31 ((List.range N).map vs),eBlk w.heap.size 140 [.slice A1 al.length c1,.int .i64 (N : Int),.slice A2 mr.length c2,.slice A3 ed.length c3,.slice (some ⟨g0,0,none⟩) (N + 1) (N + 1)]] ++ rowsE N (fun s => predsOf ed s) vs) wr) := by
     have h := S.out
     rw [List.take_length] at h
     exact h
    clear S
    have b1 := qkC S2.out 1 rfl 1 rfl
    obtain ⟨go,hgo⟩ : ∃ g,g = wr.heap.size := ⟨_,rfl⟩
    go_upto_region 8 with fail
    rw [← hgo]
    refine wp_world (fun W2 => Sep w.heap.size w ([eBlk go 3 (mkI N (fun s => if s < 0 then (-1 : Int) else 0)),eBlk gi 31 ((List.range N).map vs),eBlk w.heap.size 140 [.slice A1 al.length c1,.int .i64 (N : Int),.slice A2 mr.length c2,.slice A3 ed.length c3,.slice (some ⟨g0,0,none⟩) (N + 1) (N + 1)]] ++ rowsE N (fun s => predsOf ed s) vs) W2) ?_ fun W2 S => ?_
    · have h := S2.out.alloc' 3 (List.replicate N (.int .i64 0)) (o := Obj.cells (Array.replicate N (.int .i64 0)) 3) (by simp) hgo
      rw [mkI_rep] at h
      exact h
    have S3 := Lib.hid S
    clear S S2 b1 hgo hmk2
    go_wp2_with fail
    go_loopw [48] (fun i wr => ∃ k : Nat,i = .int .i64 k ∧ k ≤ N ∧ Hid (Sep w.heap.size w ([eBlk go 3 (mkI N (fun s => if s < k then (-1 : Int) else 0)),eBlk gi 31 ((List.range N).map vs),eBlk w.heap.size 140 [.slice A1 al.length c1,.int .i64 (N : Int),.slice A2 mr.length c2,.slice A3 ed.length c3,.slice (some ⟨g0,0,none⟩) (N + 1) (N + 1)]] ++ rowsE N (fun s => predsOf ed s) vs) wr)) (fun i _ => N - (intOf i).toNat)
    case atStart => exact ⟨0,rfl,Nat.zero_le _,S3.out⟩
    case round =>
     clear S3
     obtain ⟨k,rfl,hk,S⟩ := hrel
     by_cases hlt : k < N
     · have oc := (BlkAt.cell (S.out.get 0 rfl) k).trans (mkI_get hlt)
       have of := BlkAt.free (S.out.get 0 rfl) k
       have S4 : Hid (Sep w.heap.size w ([eBlk go 3 (mkI N (fun s => if s < k + 1 then (-1 : Int) else 0)),eBlk gi 31 ((List.range N).map vs),eBlk w.heap.size 140 [.slice A1 al.length c1,.int .i64 (N : Int),.slice A2 mr.length c2,.slice A3 ed.length c3,.slice (some ⟨g0,0,none⟩) (N + 1) (N + 1)]] ++ rowsE N (fun s => predsOf ed s) vs) (wr.setCell ⟨go,k,none⟩ (.int .i64 (-1)))) := by
        have h := S.out.set 0 rfl k (.int .i64 (-1))
        rw [mkI_set] at h
        have e : mkI N (fun t => if t = k then (-1 : Int) else if t < k then (-1 : Int) else 0) = mkI N fun s => if s < k + 1 then (-1 : Int) else 0 := mkI_congr fun t _ => by
         by_cases e1 : t = k
         · rw [if_pos e1,if_pos (by omega)]
         · rw [if_neg e1]
           by_cases e2 : t < k
           · rw [if_pos e2,if_pos (by omega)]
           · rw [if_neg e2,if_neg (by omega)]
        rw [e] at h
        exact h
       clear S
       go_wp2_with fail
       go_roundw
       case rel => exact ⟨k + 1,by go_num,by omega,S4.out⟩
       case measure => simp [intOf]; omega
     · obtain rfl : k = N := by omega
       have S4 : Hid (Sep w.heap.size w ([eBlk go 3 (mkI k (fun s => if (s : Int) ∈ tg.take 0 then (0 : Int) else -1)),eBlk gi 31 ((List.range k).map vs),eBlk w.heap.size 140 [.slice A1 al.length c1,.int .i64 (k : Int),.slice A2 mr.length c2,.slice A3 ed.length c3,.slice (some ⟨g0,0,none⟩) (k + 1) (k + 1)]] ++ rowsE k (fun s => predsOf ed s) vs) wr) := by
        have h := S.out
        have e : mkI k (fun s => if s < k then (-1 : Int) else 0) = mkI k (fun s => if (s : Int) ∈ tg.take 0 then (0 : Int) else -1) := mkI_congr fun t ht => by rw [if_pos ht,if_neg (by simp)]
        rw [e] at h
        exact h
       clear S
       go_wp2_with fail
       refine (cloneO_c AT cT tg wr (HT.out.below IntE.stays S4.out.below) (by omega)).mono ?_
       rintro e w2 ⟨vq,rfl,O,hb⟩
       have S5' := (S4.out.newI O.out hb).asQ 0 rfl
       obtain ⟨AQ,cQ,hvq,hcq⟩ := S5'.formQ 0 rfl
       subst hvq
       have S5 : Hid (Sep w.heap.size w ([eQ tg (.slice AQ tg.length cQ),eBlk go 3 (mkI k (fun s => if (s : Int) ∈ tg.take 0 then (0 : Int) else -1)),eBlk gi 31 ((List.range k).map vs),eBlk w.heap.size 140 [.slice A1 al.length c1,.int .i64 (k : Int),.slice A2 mr.length c2,.slice A3 ed.length c3,.slice (some ⟨g0,0,none⟩) (k + 1) (k + 1)]] ++ rowsE k (fun s => predsOf ed s) vs) w2) := S5'
       clear S5' S4 O hb
       go_wp2_with fail
       go_loopw [59] (fun i wr => ∃ k' : Nat,i = .int .i64 k' ∧ k' ≤ tg.length ∧ Hid (Sep w.heap.size w ([eQ tg (.slice AQ tg.length cQ),eBlk go 3 (mkI k (fun s => if (s : Int) ∈ tg.take k' then (0 : Int) else -1)),eBlk gi 31 ((List.range k).map vs),eBlk w.heap.size 140 [.slice A1 al.length c1,.int .i64 (k : Int),.slice A2 mr.length c2,.slice A3 ed.length c3,.slice (some ⟨g0,0,none⟩) (k + 1) (k + 1)]] ++ rowsE k (fun s => predsOf ed s) vs) wr)) (fun i _ => tg.length - (intOf i).toNat)
       case atStart => exact ⟨0,rfl,Nat.zero_le _,S5.out⟩
       case round =>
        clear S5
        obtain ⟨q,rfl,hq,S⟩ := hrel
        by_cases hlt2 : q < tg.length
        · obtain ⟨b,off,x,hAe,hb,hx,y0⟩ := IntsAt.at (HT.out.below IntE.stays S.out.below) hlt2
          subst hAe
          obtain ⟨s,hs⟩ := Int.eq_ofNat_of_zero_le (HRG.out x (List.mem_of_getElem? hx)).1
          have hsN : s < k := by have := (HRG.out x (List.mem_of_getElem? hx)).2; omega
          have oc := (BlkAt.cell (S.out.get 1 rfl) s).trans (mkI_get hsN)
          have of := BlkAt.free (S.out.get 1 rfl) s
          have S6 : Hid (Sep w.heap.size w ([eQ tg (.slice AQ tg.length cQ),eBlk go 3 (mkI k (fun t => if (t : Int) ∈ tg.take (q + 1) then (0 : Int) else -1)),eBlk gi 31 ((List.range k).map vs),eBlk w.heap.size 140 [.slice A1 al.length c1,.int .i64 (k : Int),.slice A2 mr.length c2,.slice A3 ed.length c3,.slice (some ⟨g0,0,none⟩) (k + 1) (k + 1)]] ++ rowsE k (fun s => predsOf ed s) vs) (wr.setCell ⟨go,s,none⟩ (.int .i64 0))) := by
           have h := S.out.set 1 rfl s (.int .i64 0)
           rw [mkI_set] at h
           have e : mkI k (fun t => if t = s then (0 : Int) else if (t : Int) ∈ tg.take q then (0 : Int) else -1) = mkI k fun t => if (t : Int) ∈ tg.take (q + 1) then (0 : Int) else -1 := mkI_congr fun t _ => by
            rw [List.take_add_one,hx,Option.toList_some,hs]
            by_cases e1 : t = s
            · rw [if_pos e1,if_pos (by simp [e1])]
            · rw [if_neg e1]
              by_cases e2 : (t : Int) ∈ tg.take q
              · rw [if_pos e2,if_pos (List.mem_append_left _ e2)]
              · rw [if_neg e2,if_neg (by
                 intro g
                 rcases List.mem_append.1 g with g | g
                 · exact e2 g
                 · have := List.mem_singleton.1 g; omega)]
           rw [e] at h
           exact h
          rw [hs] at y0
          clear S hx hs
          go_wp2_with fail
          go_roundw
          case rel => exact ⟨q + 1,by go_num,by omega,S6.out⟩
          case measure => simp [intOf]; omega
        · obtain rfl : q = tg.length := by omega
          obtain ⟨C,hC⟩ : ∃ C,C = negC k (fun s => if (s : Int) ∈ tg then (0 : Int) else -1) + tg.length := ⟨_,rfl⟩
          have S6 : Hid (Sep w.heap.size w ([eQ (tg.drop 0) (.slice AQ (tg.drop 0).length cQ),eBlk go 3 (mkI k (fun s => if (s : Int) ∈ tg then (0 : Int) else -1)),eBlk gi 31 ((List.range k).map vs),eBlk w.heap.size 140 [.slice A1 al.length c1,.int .i64 (k : Int),.slice A2 mr.length c2,.slice A3 ed.length c3,.slice (some ⟨g0,0,none⟩) (k + 1) (k + 1)]] ++ rowsE k (fun s => predsOf ed s) vs) wr) := by
           have h := S.out
           rw [List.take_length] at h
           exact h
          have HC := Lib.hid hC
          clear S hC
          go_wp2_with fail
          go_loopw [10] (fun v10 wr => ∃ (fs : List Int) (h : Nat) (d : Nat → Int) (AQ' : Option Addr) (cQ' : Nat),v10 = .slice AQ' (fs.drop h).length cQ' ∧ h ≤ fs.length ∧ Hid (BwdD ⟨al,k,mr,ed⟩ k tg fs d h 0) ∧ Hid (negC k d + fs.length = C) ∧ Hid (Sep w.heap.size w ([eQ (fs.drop h) (.slice AQ' (fs.drop h).length cQ'),eBlk go 3 (mkI k d),eBlk gi 31 ((List.range k).map vs),eBlk w.heap.size 140 [.slice A1 al.length c1,.int .i64 (k : Int),.slice A2 mr.length c2,.slice A3 ed.length c3,.slice (some ⟨g0,0,none⟩) (k + 1) (k + 1)]] ++ rowsE k (fun s => predsOf ed s) vs) wr)) (fun v10 wr => 2 * wNeg wr go k + lenOf v10)
          case atStart => exact ⟨tg,0,_,AQ,cQ,rfl,Nat.zero_le _,B0.out,HC.out.symm,S6.out⟩
          case round =>
           clear S6 HC B0
           obtain ⟨fs,h,d,AQ',cQ',rfl,hh,B,HC,S⟩ := hrel
           have hfl : fs.length ≤ k := B.out.b.len
           by_cases hlt3 : h < fs.length
           · obtain ⟨s0,hs0⟩ : ∃ x,fs[h]? = some x := ⟨_,List.getElem?_eq_getElem hlt3⟩
             obtain ⟨s,hs⟩ := Int.eq_ofNat_of_zero_le (B.out.b.rg s0 (List.mem_of_getElem? hs0)).1
             have hsN : s < k := by have := (B.out.b.rg s0 (List.mem_of_getElem? hs0)).2; omega
             rw [hs] at hs0
             have FS := Lib.hid hs0
             have hdrop : fs.drop h = (s : Int) :: fs.drop (h + 1) := by
              rw [List.drop_eq_getElem_cons hlt3]
              have := List.getElem?_eq_getElem hlt3
              rw [FS.out] at this
              rw [← Option.some.inj this]
             have hdl : (fs.drop h).length = fs.length - h := List.length_drop ..
             have HN0 : Hid (2 * wNeg wr go k + (fs.length - h) = 2 * (C - fs.length) + (fs.length - h)) := by
              rw [Hid,wNeg_eq (S.out.get 1 rfl)]; have := HC.out; omega
             have hcap := OwnO.cap (S.out.get 0 rfl)
             rw [hdl] at S ⊢ hcap
             rw [hdrop] at S
             obtain ⟨gq,oq,y,hAe,hbq,hy,cq⟩ := IntsAt.at (l := (s : Int) :: fs.drop (h + 1)) (Sep.intsQ (c := cQ') (by have h' := S.out; rw [show fs.length - h = ((s : Int) :: fs.drop (h + 1)).length by simp; omega] at h'; exact h') 0 rfl) (k := 0) (by simp)
             simp at hy
             subst hy
             subst hAe
             rw [Nat.add_zero] at cq
             obtain ⟨AT2,hAT2,S1'⟩ := S.out.tailQ (enc := encI) (k := 1) (fun _ => rfl) 0 rfl
             have S1 : Hid (Sep w.heap.size w ([eQ (fs.drop (h + 1)) (.slice (some AT2) (fs.drop (h + 1)).length (cQ' - 1)),eBlk go 3 (mkI k d),eBlk gi 31 ((List.range k).map vs),eBlk w.heap.size 140 [.slice A1 al.length c1,.int .i64 (k : Int),.slice A2 mr.length c2,.slice A3 ed.length c3,.slice (some ⟨g0,0,none⟩) (k + 1) (k + 1)]] ++ rowsE k (fun s => predsOf ed s) vs) wr) := S1'
             have hlen1 : (fs.drop (h + 1)).length = fs.length - h - 1 := by rw [List.length_drop]; omega
             have HD1 := Lib.hid hlen1
             have hpos : 0 < fs.length - h := by omega
             clear S1' S hdl hdrop hbq
             go_upto_region 21 with fail
             go_cut [10] (fun v wx => v = .slice (some AT2) (fs.length - h - 1) (cQ' - 1) ∧ wx = wr)
             case first =>
              by_cases h1c : cQ' = 1
              · rw [if_pos h1c] at hAT2
                cases hAT2
                go_wp2_with fail
                go_meet
                exact ⟨by first | rfl | (simp; done) | (simp; omega),rfl⟩
              · rw [if_neg h1c] at hAT2
                cases hAT2
                go_wp2_with fail
                go_meet
                exact ⟨by first | rfl | (simp; done) | (simp; omega),rfl⟩
             case rest =>
              clear cq hAT2 hcap hpos hlen1
              obtain ⟨rfl,rfl⟩ := hcut
              obtain ⟨AR,cR,hvs⟩ := S1.out.form (4 + s) (rowsE_get (A := [_,_,_,_]) hsN)
              have ic := (BlkAt.cell (S1.out.get 2 rfl) s).trans (rowsV_get hsN)
              rw [hvs] at ic
              have HVS := Lib.hid hvs
              clear hvs hs0
              have hri : ∀ (E1 E2 E3 E4 : Ent),([E1,E2,E3,E4] ++ rowsE k (fun s => predsOf ed s) vs)[4 + s]? = some (eInts (predsOf ed s) (.slice AR (predsOf ed s).length cR)) := fun E1 E2 E3 E4 => (rowsE_get (A := [E1,E2,E3,E4]) hsN).trans (by rw [HVS.out])
              have HRI := Lib.hid hri
              have hpl := predsOf_len ed s
              clear hri
              go_wp2_with fail
              go_loopw [10,80] (fun v10 i wr2 => ∃ (q : Nat) (fs' : List Int) (d' : Nat → Int) (rest : List Int) (AQ2 : Option Addr) (cQ2 : Nat),v10 = .slice AQ2 rest.length cQ2 ∧ Hid (rest = fs'.drop (h + 1)) ∧ i = .int .i64 q ∧ q ≤ (predsOf ed s).length ∧ fs.length ≤ fs'.length ∧ Hid (fs'[h]? = some (s : Int)) ∧ Hid (BwdD ⟨al,k,mr,ed⟩ k tg fs' d' h q) ∧ Hid (negC k d' + fs'.length = C) ∧ Hid (Sep w.heap.size w ([eQ rest (.slice AQ2 rest.length cQ2),eBlk go 3 (mkI k d'),eBlk gi 31 ((List.range k).map vs),eBlk w.heap.size 140 [.slice A1 al.length c1,.int .i64 (k : Int),.slice A2 mr.length c2,.slice A3 ed.length c3,.slice (some ⟨g0,0,none⟩) (k + 1) (k + 1)]] ++ rowsE k (fun s => predsOf ed s) vs) wr2)) (fun _ i _ => (predsOf ed s).length - (intOf i).toNat)
              case atStart => exact ⟨0,fs,d,fs.drop (h + 1),some AT2,cQ' - 1,by rw [HD1.out],rfl,rfl,Nat.zero_le _,Nat.le_refl _,FS.out,B.out,HC.out,S1.out⟩
              case round =>
               clear S1 ic B HC
               obtain ⟨q,fs',d',rest,AQ2,cQ2,rfl,HRE,rfl,hq,hff,FS',B',HC',S⟩ := hrel
               have hfl' : fs'.length ≤ k := B'.out.b.len
               have hhl : h < fs'.length := (List.getElem?_eq_some_iff.1 FS'.out).1
               by_cases hlt4 : q < (predsOf ed s).length
               · obtain ⟨b,off,p,hAe,hb,hp,cp⟩ := IntsAt.at (Sep.ints S.out (4 + s) (HRI.out _ _ _ _)) hlt4
                 subst hAe
                 obtain ⟨x,hx,x1,x2⟩ := mem_predsOf.1 (List.mem_of_getElem? hp)
                 have hxr := edge_next HR.out hx
                 have hp0 : 0 ≤ p := by rw [← x2]; exact hxr.2.1
                 have hp1 : p < (k : Int) := by rw [← x2]; exact hxr.2.2.1
                 obtain ⟨pn,rfl⟩ := Int.eq_ofNat_of_zero_le hp0
                 have hpN : pn < k := by omega
                 have HP := Lib.hid hp
                 have oc := (BlkAt.cell (S.out.get 1 rfl) pn).trans (mkI_get hpN)
                 clear hx x1 x2 hxr hp hp0 hp1 hb
                 by_cases hneg : d' pn < 0
                 · have os := (BlkAt.cell (S.out.get 1 rfl) s).trans (mkI_get hsN)
                   have of := BlkAt.free (S.out.get 1 rfl) pn
                   have hds0 : 0 ≤ d' s := (B'.out.b.mem s hsN).2 (List.mem_of_getElem? FS'.out)
                   have hds1 : d' s ≤ h := by have := B'.out.b.le h _ FS'.out; simpa using this
                   have hwr : IntKind.i64.wrap (d' s + 1) = d' s + 1 := IntWalk.i64_in _ (by omega)
                   have hm : ¬ (pn : Int) ∈ fs' := fun g => by have := (B'.out.b.mem pn hpN).2 g; omega
                   have B2 : Hid (BwdD ⟨al,k,mr,ed⟩ k tg (fs' ++ [(pn : Int)]) (fun t => if t = pn then d' s + 1 else d' t) h (q + 1)) := B'.out.new HR.out rfl FS'.out HP.out hm
                   have HC2 : Hid (negC k (fun t => if t = pn then d' s + 1 else d' t) + (fs' ++ [(pn : Int)]).length = C) := by
                    have h1 := negC_put (d := d') (p := pn) (x := d' s + 1) hneg (by omega) k
                    rw [if_pos hpN] at h1
                    have h2 := HC'.out
                    unfold Hid
                    rw [List.length_append,List.length_singleton]
                    omega
                   have S2 : Hid (Sep w.heap.size w ([eQ rest (.slice AQ2 rest.length cQ2),eBlk go 3 (mkI k fun t => if t = pn then d' s + 1 else d' t),eBlk gi 31 ((List.range k).map vs),eBlk w.heap.size 140 [.slice A1 al.length c1,.int .i64 (k : Int),.slice A2 mr.length c2,.slice A3 ed.length c3,.slice (some ⟨g0,0,none⟩) (k + 1) (k + 1)]] ++ rowsE k (fun s => predsOf ed s) vs) (wr.setCell ⟨go,pn,none⟩ (.int .i64 (d' s + 1)))) := by
                    have h := S.out.set 1 rfl pn (.int .i64 (d' s + 1))
                    rw [mkI_set] at h
                    exact h
                   have hdr : rest ++ [(pn : Int)] = (fs' ++ [(pn : Int)]).drop (h + 1) := by rw [List.drop_append_of_le_length (by omega),HRE.out]
                   have HDR := Lib.hid hdr
                   have hll : rest.length ≤ 1048576 := by rw [HRE.out,List.length_drop]; omega
                   clear hdr hm hds0 hds1 S B' HC'
                   go_wp2_with (at_builtin; refine wpList_pushQ (enc := encI) (k := 1) (fun _ => rfl) rfl _ _ 31 rfl (S2.out.alloc 3 [.int .i64 (pn : Int)]) 1 rfl Tryz.underlying31 _ 8 intInfo rfl (by decide) rfl (pn : Int) _ rfl (one_cell _ _ [_] _ (by simp)) (encI_one _) hll (by decide) ?_)
                   intro A3' c3' w3 S3
                   have S4 : Hid (Sep w.heap.size w ([eQ (rest ++ [(pn : Int)]) (.slice A3' (rest.length + 1) c3'),eBlk go 3 (mkI k fun t => if t = pn then d' s + 1 else d' t),eBlk gi 31 ((List.range k).map vs),eBlk w.heap.size 140 [.slice A1 al.length c1,.int .i64 (k : Int),.slice A2 mr.length c2,.slice A3 ed.length c3,.slice (some ⟨g0,0,none⟩) (k + 1) (k + 1)]] ++ rowsE k (fun s => predsOf ed s) vs) w3) := S3.drop1
                   clear S3 S2 oc os of
                   go_wp2_with fail
                   go_roundw
                   case rel => exact ⟨q + 1,fs' ++ [(pn : Int)],_,rest ++ [(pn : Int)],A3',c3',by rw [List.length_append]; rfl,HDR.out,by go_num,by omega,by rw [List.length_append]; omega,(List.getElem?_append_left hhl).trans FS'.out,B2.out,HC2.out,by rw [List.length_append]; exact S4.out⟩
                   case measure => simp [intOf]; omega
                 · have hnn : 0 ≤ d' pn := by omega
                   have B2 : Hid (BwdD ⟨al,k,mr,ed⟩ k tg fs' d' h (q + 1)) := B'.out.old FS'.out HP.out ((B'.out.b.mem pn hpN).1 hnn)
                   have hdf : decide (d' pn < 0) = false := by simp; omega
                   clear B'
                   go_wp2_with fail
                   go_roundw
                   case rel => exact ⟨q + 1,fs',d',rest,AQ2,cQ2,rfl,HRE.out,by go_num,by omega,hff,FS'.out,B2.out,HC'.out,S.out⟩
                   case measure => simp [intOf]; omega
               · obtain rfl : q = (predsOf ed s).length := by omega
                 have B2 : Hid (BwdD ⟨al,k,mr,ed⟩ k tg fs' d' (h + 1) 0) := B'.out.next FS'.out (Nat.le_refl _)
                 have HW : Hid (wNeg wr go k = negC k d') := wNeg_eq (S.out.get 1 rfl)
                 clear B'
                 go_wp2_with fail
                 go_roundw
                 case rel => exact ⟨fs',h + 1,d',AQ2,cQ2,by rw [← HRE.out],hhl,B2.out,HC'.out,by rw [← HRE.out]; exact S.out⟩
                 case measure =>
                  have h1 := HN0.out
                  have h2 := HW.out
                  have h3 := HC'.out
                  have h4 : rest.length = fs'.length - (h + 1) := by rw [HRE.out]; exact List.length_drop ..
                  simp only [lenOf]
                  omega
           · obtain rfl : h = fs.length := by omega
             have HF : Hid (DistOk ⟨al,k,mr,ed⟩ k tg d) := B.out.fin HR.out rfl HNN.out
             have hdl : (fs.drop fs.length).length = 0 := by simp
             rw [hdl] at S ⊢
             clear hdl
             go_wp2_with fail
             go_ret
             exact ⟨go,d,rfl,S.out.left.pick [1] (by decide),HF.out⟩
end Go.Proofs.YtimdepdbcdbikaaGreat
