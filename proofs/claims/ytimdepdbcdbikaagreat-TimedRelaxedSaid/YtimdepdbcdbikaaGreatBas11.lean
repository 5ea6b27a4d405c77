/-
  reach.list, reach.closure, reach.Interior.
  Plain: the automaton of the examples of the chapter on reach.
  overseerlaw04: the examples of the chapter.
  overseerlaw08.Known; overseerlaw04.Make: which automaton it makes.
  Plain: described automata are right.
  The reference of layer 8: next, marked, initial.
  Plain: what the reference's search for a word that tells two states apart has done.
-/
import Derived.Test.YtimdepdbcdbikaaGreatBas10
import Derived.Test.YtimdepdbcdbikaaGreatBas04
import Derived.Test.YtimdepdbcdbikaaGreatBas05
set_option linter.unusedSimpArgs false
set_option linter.unusedVariables false
namespace Go.Proofs.YtimdepdbcdbikaaGreat
open Go.RowKit
set_option maxRecDepth 100000
section
attribute [local go_sem] Oper.semAt_some

def mkV (X : Nat → Bool) (k : Nat) : List Int := ((List.range k).filter X).map fun s : Nat => (s : Int)
theorem mkV_yes {X : Nat → Bool} {k : Nat} (h : X k = true) : mkV X (k + 1) = mkV X k ++ [(k : Int)] := by simp [mkV,List.range_succ,List.filter_append,h]
theorem mkV_no {X : Nat → Bool} {k : Nat} (h : X k = false) : mkV X (k + 1) = mkV X k := by simp [mkV,List.range_succ,List.filter_append,h]
theorem mkV_len (X : Nat → Bool) (k : Nat) : (mkV X k).length ≤ k := by
 have := List.length_filter_le X (List.range k)
 simpa [mkV] using this
theorem mkB_clear {n : Nat} {X : Nat → Bool} (s : Nat) : (mkB n X).set s (.bool false) = mkB n fun t => !decide (t = s) && X t := by
 apply List.ext_getElem?
 intro j
 by_cases hj : j < n
 · rw [mkB_get hj,List.getElem?_set]
   by_cases e : s = j
   · subst e
     rw [if_pos rfl,if_pos (by simpa [mkB] using hj)]
     simp
   · rw [if_neg e,mkB_get hj]
     have : ¬ j = s := fun h => e h.symm
     simp [this]
 · rw [List.getElem?_eq_none (by simp [mkB]; omega),List.getElem?_eq_none (by simp [mkB]; omega)]
def cntT (X : Nat → Bool) (N : Nat) : Nat := ((List.range N).filter X).length
theorem cntT_less {X : Nat → Bool} {N s : Nat} (hs : s < N) (hx : X s = true) : cntT (fun t => !decide (t = s) && X t) N < cntT X N := by
 have := sub_len (s :: (List.range N).filter (fun t => !decide (t = s) && X t)) ((List.range N).filter X) (List.nodup_cons.2 ⟨by simp,List.Pairwise.filter _ List.nodup_range⟩) (fun x hm => by
  rcases List.mem_cons.1 hm with rfl | g
  · simp [hs,hx]
  · simp only [List.mem_filter,Bool.and_eq_true] at g ⊢
    exact ⟨g.1,g.2.2⟩)
 simp only [List.length_cons] at this
 unfold cntT
 omega
def isT : Option Value → Bool
 | some (.bool true) => true
 | _ => false
def wT (w : World) (g N : Nat) : Nat := cntT (fun s => isT (w.cell? ⟨g,s,none⟩)) N
theorem wT_of {w : World} {g N : Nat} {T : TypeId} {X : Nat → Bool} (h : BlkAt w g T (mkB N X)) : wT w g N = cntT X N := by
 unfold wT cntT
 congr 1
 refine List.filter_congr fun s hs => ?_
 rw [h.cell s,mkB_get (List.mem_range.1 hs)]
 cases X s <;> rfl
def boolN : Value → Nat
 | .bool true => 1
 | _ => 0
set_option maxHeartbeats 1000000 in
theorem list_c (g N : Nat) (X : Nat → Bool) (w : World) (h : BlkAt w g 4 (mkB N X)) (hn : N ≤ 4096) :
 Calls Tryz.prog 109 #[.slice (some ⟨g,0,none⟩) N N] w (GivesI (mkV X N) w) := by
 have H := Lib.hid h
 clear h
 go_enter Tryz.func109,Tryz.ntmps109
 go_wp2_with fail
 go_loopw [3,8] (fun v i wr => ∃ k : Nat,i = .int .i64 (k : Int) ∧ k ≤ N ∧ Hid (Sep w.heap.size w [eInts (mkV X k) v] wr)) (fun _ i _ => N - (intOf i).toNat)
 case atStart => exact ⟨0,rfl,Nat.zero_le _,(Sep.here w).nilOwn encI 1 3⟩
 case round =>
  obtain ⟨k,rfl,hk,S⟩ := hrel
  by_cases hlt : k < N
  · have y0 := ((H.out.below S.out.below H.out.lt).cell k).trans (mkB_get hlt)
    have hvl := mkV_len X k
    obtain ⟨d,hd⟩ : ∃ d,d = X k := ⟨_,rfl⟩
    rw [← hd] at y0
    have HD := Lib.hid hd.symm
    clear hd
    obtain ⟨AV,cV,rfl⟩ := S.out.form 0 rfl
    cases d
    · go_wp2_with fail
      go_roundw
      case rel => exact ⟨k + 1,by go_num,by omega,by rw [mkV_no HD.out]; exact S.out⟩
      case measure => simp [intOf]; omega
    · go_wp2_with (at_builtin; refine wpList_pushS rfl _ _ 31 rfl (S.out.alloc 3 [.int .i64 (k : Int)]) 1 rfl Tryz.underlying31 _ 8 intInfo rfl (by decide) rfl (k : Int) _ rfl rfl (one_cell _ _ [_] _ rfl) (encI_one _) (by omega) (by decide) ?_)
      intro A5 c5 w6 S9 _
      have S10 := Lib.hid S9.drop1
      clear S9 y0
      go_wp2_with fail
      go_roundw
      case rel => exact ⟨k + 1,by go_num,by omega,by rw [mkV_yes HD.out]; exact S10.out⟩
      case measure => simp [intOf]; omega
  · obtain rfl : k = N := by omega
    go_wp2_with fail
    go_ret
    exact ⟨_,rfl,S.out.ownAt 0 rfl,S.out.below⟩
def IntOk (a : Au) (st ev : List Int) (X : Nat → Bool) : Prop := (∀ s : Nat,X s = true → (s : Int) ∈ st) ∧ (∀ x,x ∈ a.ed → X x.src.toNat = true → x.ev ∈ ev → X x.dst.toNat = true) ∧
 ∀ Y : Nat → Bool,(∀ s : Nat,Y s = true → (s : Int) ∈ st) → (∀ x,x ∈ a.ed → Y x.src.toNat = true → x.ev ∈ ev → Y x.dst.toNat = true) → ∀ s : Nat,Y s = true → X s = true
def IntUp (a : Au) (st ev : List Int) (X : Nat → Bool) : Prop := (∀ s : Nat,X s = true → (s : Int) ∈ st) ∧
 ∀ Y : Nat → Bool,(∀ s : Nat,Y s = true → (s : Int) ∈ st) → (∀ x,x ∈ a.ed → Y x.src.toNat = true → x.ev ∈ ev → Y x.dst.toNat = true) → ∀ s : Nat,Y s = true → X s = true
theorem IntUp.clear {a : Au} {st ev : List Int} {X : Nat → Bool} (h : IntUp a st ev X) {x : Ed} (hx : x ∈ a.ed) (h1 : X x.dst.toNat = false) (h2 : x.ev ∈ ev) : IntUp a st ev (fun t => !decide (t = x.src.toNat) && X t) := by
 refine ⟨fun s hs => ?_,fun Y hY hc s hs => ?_⟩
 · simp only [Bool.and_eq_true] at hs
   exact h.1 s hs.2
 · have := h.2 Y hY hc s hs
   simp only [Bool.and_eq_true,Bool.not_eq_true',decide_eq_false_iff_not]
   refine ⟨fun e => ?_,this⟩
   subst e
   have := h.2 Y hY hc _ (hc x hx hs h2)
   rw [h1] at this; cases this
def GivesInt (a : Au) (st ev : List Int) (w : World) (e : Ending) (w' : World) : Prop := ∃ (A : Option Addr) (c : Nat) (X : Nat → Bool),e = .returned (.tuple #[.slice A (mkV X a.n.toNat).length c,.int .i64 0]) ∧ Hid (IntsAt w' A (mkV X a.n.toNat)) ∧ Below w.heap.size w w' ∧ Hid (IntOk a st ev X)
set_option maxHeartbeats 1000000 in
theorem closure_c (a : Au) (p : AuP) (AS AV : Option Addr) (cS cV : Nat) (st ev : List Int) (w : World) (hr : a.Right) (hA : Au.At w a p) (hS : IntsAt w AS st) (hV : IntsAt w AV ev) (h1 : setOk st a.n st.length) (h2 : setOk ev 32 ev.length) (l1 : st.length ≤ 4096) (l2 : ev.length ≤ 4096) :
 Calls Tryz.prog 108 #[a.val p,.slice AS st.length cS,.slice AV ev.length cV] w (Ret (.int .i64 0) w) := by
 have HR := Lib.hid hr
 have HA := Lib.hid hA
 have HS := Lib.hid hS
 have HV := Lib.hid hV
 have ST := Lib.hid h1
 have SV := Lib.hid h2
 have n0 := hr.n0
 obtain ⟨al,n,mr,ed⟩ := a
 obtain ⟨A1,c1,A2,c2,A3,c3⟩ := p
 obtain ⟨N,rfl⟩ := Int.eq_ofNat_of_zero_le n0
 dsimp only [Au.val] at ST ⊢
 clear hr hA hS hV h1 h2 n0
 go_enter Tryz.func108,Tryz.ntmps108
 go_wp2_with fail
 refine calls_world (fun W => Sep w.heap.size w [eBlk w.heap.size 34 [.slice A1 al.length c1,.int .i64 (N : Int),.slice A2 mr.length c2,.slice A3 ed.length c3]] W) ?_ fun W S => ?_
 · exact (Sep.here w).alloc' _ [_,_,_,_] rfl rfl
 refine (CheckX_c ⟨al,(N : Int),mr,ed⟩ ⟨A1,c1,A2,c2,A3,c3⟩ W (HA.out.below S.below)).mono ?_
 rintro e w1 ⟨r,rfl,hr,hb⟩
 obtain rfl : r = 0 := hr.zero.2 HR.out
 have S0 : Hid (Sep w.heap.size w [eBlk w.heap.size 34 [.slice A1 al.length c1,.int .i64 (N : Int),.slice A2 mr.length c2,.slice A3 ed.length c3]] w1) := S.next hb
 clear S hb hr
 have a0 := BlkAt.cell (S0.out.get 0 rfl) 0; have a1 := BlkAt.cell (S0.out.get 0 rfl) 1; have a2 := BlkAt.cell (S0.out.get 0 rfl) 2; have a3 := BlkAt.cell (S0.out.get 0 rfl) 3; simp only [List.getElem?_cons_succ,List.getElem?_cons_zero] at a0 a1 a2 a3
 go_wp2_with fail
 refine (checkStates_c ⟨al,(N : Int),mr,ed⟩ ⟨A1,c1,A2,c2,A3,c3⟩ AS cS st w1 (HS.out.below IntE.stays S0.out.below) (by simp only [maxLen]; omega)).mono ?_
 intro e w2 hs
 rcases hs.two with ⟨r,rfl,_,_,HN,_⟩ | ⟨rfl,_,hb⟩
 · exact absurd ST.out HN.out
 have S2 := Lib.hid (S0.out.next hb)
 clear hs hb S0 a0 a1 a2 a3
 have CS := Lib.hid (checkSetR_c AV cV ev 32 w2 (HV.out.below IntE.stays S2.out.below) (by simp only [maxLen]; omega))
 go_wp2_with fail
 refine CS.out.mono ?_
 intro e w3 hs
 rcases hs.two with ⟨r,rfl,_,_,HN,_⟩ | ⟨rfl,_,hb⟩
 · exact absurd SV.out HN.out
 subst hb
 clear hs CS
 go_wp2_with fail
 go_ret
 exact ⟨rfl,S2.out.below⟩
theorem stepF {X X' : Nat → Bool} {ed : List Ed} {ev : List Int} {k sx dx : Nat} {ye : Int} {ag : Bool} (F1 : ag = false → X' = X ∧ ∀ (j : Nat) x,j < k → ed[j]? = some x → X x.src.toNat = true → x.ev ∈ ev → X x.dst.toNat = true)
 (hx : ed[k]? = some ⟨(sx : Int),ye,(dx : Int)⟩) (h : X' sx = true → ye ∈ ev → X' dx = true) : ag = false → X' = X ∧ ∀ (j : Nat) x,j < k + 1 → ed[j]? = some x → X x.src.toNat = true → x.ev ∈ ev → X x.dst.toNat = true := by
 intro ha
 obtain ⟨e,f⟩ := F1 ha
 subst e
 refine ⟨rfl,fun j x hj hxj hs he => ?_⟩
 rcases Nat.lt_or_ge j k with g | g
 · exact f j x g hxj hs he
 · obtain rfl : j = k := by omega
   obtain rfl := Option.some.inj (hx.symm.trans hxj)
   exact h hs he
theorem stepC {X X' : Nat → Bool} {P : Prop} {N sx : Nat} {ag : Bool} (F1 : ag = false → X' = X ∧ P) (F2 : ag = true → cntT X' N < cntT X N) (hs : sx < N) (hx : X' sx = true) : cntT (fun t => !decide (t = sx) && X' t) N < cntT X N := by
 have h := cntT_less hs hx
 cases ag
 · obtain rfl := (F1 rfl).1
   exact h
 · have := F2 rfl
   omega
set_option maxHeartbeats 4000000 in
theorem interior_c (a : Au) (p : AuP) (AS AV : Option Addr) (cS cV : Nat) (st ev : List Int) (w : World) (hr : a.Right) (hA : Au.At w a p) (hS : IntsAt w AS st) (hV : IntsAt w AV ev) (h1 : setOk st a.n st.length) (h2 : setOk ev 32 ev.length) :
 Calls Tryz.prog 85 #[a.val p,.slice AS st.length cS,.slice AV ev.length cV] w (GivesInt a st ev w) := by
 have HR := Lib.hid hr
 have HA := Lib.hid hA
 have HS := Lib.hid hS
 have HV := Lib.hid hV
 have ST := Lib.hid h1
 have SV := Lib.hid h2
 have n0 := hr.n0
 have hn := hr.n1
 have hle := ed_len hr
 have HST : Hid (∀ x,x ∈ st → 0 ≤ x ∧ x < a.n) := h1.rg
 have l1 : st.length ≤ 4096 := by
  have := rises_len (n := 4096) (l := st) h1.incr (fun x hx => by have := h1.rg x hx; omega)
  exact this
 have l2 : ev.length ≤ 4096 := by
  have := rises_len (n := 4096) (l := ev) h2.incr (fun x hx => by have := h2.rg x hx; omega)
  exact this
 obtain ⟨al,n,mr,ed⟩ := a
 obtain ⟨A1,c1,A2,c2,A3,c3⟩ := p
 obtain ⟨N,rfl⟩ := Int.eq_ofNat_of_zero_le n0
 dsimp only [Au.val] at ST HST hn hle ⊢
 clear hr hA hS hV h1 h2 n0
 go_enter Tryz.func85,Tryz.ntmps85
 go_wp2_with fail
 refine calls_world (fun W => Sep w.heap.size w [eBlk w.heap.size 34 [.slice A1 al.length c1,.int .i64 (N : Int),.slice A2 mr.length c2,.slice A3 ed.length c3]] W) ?_ fun W S => ?_
 · exact (Sep.here w).alloc' _ [_,_,_,_] rfl rfl
 refine (closure_c ⟨al,(N : Int),mr,ed⟩ ⟨A1,c1,A2,c2,A3,c3⟩ AS AV cS cV st ev W HR.out (HA.out.below S.below) (HS.out.below IntE.stays S.below) (HV.out.below IntE.stays S.below) ST.out SV.out l1 l2).mono ?_
 rintro e w1 ⟨rfl,hb⟩
 have S0 : Hid (Sep w.heap.size w [eBlk w.heap.size 34 [.slice A1 al.length c1,.int .i64 (N : Int),.slice A2 mr.length c2,.slice A3 ed.length c3]] w1) := S.next hb
 clear S hb
 have a0 := BlkAt.cell (S0.out.get 0 rfl) 0; have a1 := BlkAt.cell (S0.out.get 0 rfl) 1; have a2 := BlkAt.cell (S0.out.get 0 rfl) 2; have a3 := BlkAt.cell (S0.out.get 0 rfl) 3; simp only [List.getElem?_cons_succ,List.getElem?_cons_zero] at a0 a1 a2 a3
 go_wp2_with fail
 refine (flags_c ⟨al,(N : Int),mr,ed⟩ ⟨A1,c1,A2,c2,A3,c3⟩ AS cS st w1 HST.out (Int.natCast_nonneg _) hn (HS.out.below IntE.stays S0.out.below) (by omega)).mono ?_
 rintro e w2 ⟨gi,rfl,T⟩
 have S2 := qkN S0.out T.out
 clear T S0 a0 a1 a2 a3
 have U0 : Hid (IntUp ⟨al,(N : Int),mr,ed⟩ st ev (fun s => decide ((s : Int) ∈ st))) := ⟨fun s hs => by simpa using hs,fun Y hY _ s hs => by simpa using hY s hs⟩
 obtain ⟨X0,hX0⟩ : ∃ X : Nat → Bool,X = fun s : Nat => decide ((s : Int) ∈ st) := ⟨_,rfl⟩
 rw [← hX0] at S2 U0
 clear hX0
 go_wp2_with fail
 go_loopw [10] (fun v wr => ∃ (X : Nat → Bool) (ag : Bool),v = .bool ag ∧ Hid (IntUp ⟨al,(N : Int),mr,ed⟩ st ev X) ∧ Hid (ag = false → IntOk ⟨al,(N : Int),mr,ed⟩ st ev X) ∧ Hid (Sep w.heap.size w [eBlk gi 4 (mkB N X),eBlk w.heap.size 34 [.slice A1 al.length c1,.int .i64 (N : Int),.slice A2 mr.length c2,.slice A3 ed.length c3]] wr)) (fun v wr => 2 * wT wr gi N + boolN v)
 case atStart => exact ⟨X0,true,rfl,U0.out,(fun h => by cases h),S2.out⟩
 case round =>
  clear S2 U0
  obtain ⟨X,ag,rfl,U,OK,S⟩ := hrel
  have HW0 : Hid (wT wr gi N = cntT X N) := wT_of (S.out.get 0 rfl)
  cases ag
  · have OK2 := Lib.hid (OK.out rfl)
    go_wp2_with fail
    refine (list_c gi N X wr (S.out.get 0 rfl) (by omega)).mono ?_
    rintro e w3 ⟨v,rfl,O,hb⟩
    obtain ⟨AR,cR,rfl⟩ := O.out.form
    have S3 := Lib.hid (S.out.next hb)
    have O2 := Lib.hid O.out
    clear hb O
    go_wp2_with fail
    refine bodyPost_ret (v := .tuple #[.slice AR (mkV X N).length cR,.int .i64 0]) (by simp [results,Tryz.results85,go_sem]) rfl ?_
    exact ⟨AR,cR,X,rfl,OwnI.ints O2.out,S3.out.below,OK2.out⟩
  · clear OK
    have a0 := BlkAt.cell (S.out.get 1 rfl) 0; have a1 := BlkAt.cell (S.out.get 1 rfl) 1; have a2 := BlkAt.cell (S.out.get 1 rfl) 2; have a3 := BlkAt.cell (S.out.get 1 rfl) 3; simp only [List.getElem?_cons_succ,List.getElem?_cons_zero] at a0 a1 a2 a3
    go_wp2_with fail
    clear a0 a1 a2 a3
    go_loopw [10,27] (fun v i wx => ∃ (k : Nat) (X' : Nat → Bool) (ag : Bool),v = .bool ag ∧ i = .int .i64 (k : Int) ∧ k ≤ ed.length ∧ Hid (IntUp ⟨al,(N : Int),mr,ed⟩ st ev X') ∧ Hid (ag = false → X' = X ∧ ∀ (j : Nat) x,j < k → ed[j]? = some x → X x.src.toNat = true → x.ev ∈ ev → X x.dst.toNat = true) ∧ Hid (ag = true → cntT X' N < cntT X N) ∧ Hid (Sep w.heap.size w [eBlk gi 4 (mkB N X'),eBlk w.heap.size 34 [.slice A1 al.length c1,.int .i64 (N : Int),.slice A2 mr.length c2,.slice A3 ed.length c3]] wx)) (fun _ i _ => ed.length - (intOf i).toNat)
    case atStart => exact ⟨0,X,false,rfl,rfl,Nat.zero_le _,U.out,fun _ => ⟨rfl,fun j x h => absurd h (by omega)⟩,(fun h => by cases h),S.out⟩
    case round =>
     obtain ⟨k,X',ag,rfl,rfl,hk,U',F1,F2,S1⟩ := hrel
     by_cases hlt : k < ed.length
     · obtain ⟨b,off,x,hA3,hb,hx,e0,e1,e2⟩ := EdE.cells3 ((HA.out.below S1.out.below).ed) hlt
       dsimp only at hA3
       subst hA3
       have hm := List.mem_of_getElem? hx
       have hxr := edge_next HR.out hm
       obtain ⟨xs,ye,xd⟩ := x
       obtain ⟨sx,rfl⟩ := Int.eq_ofNat_of_zero_le hxr.2.1
       obtain ⟨dx,rfl⟩ := Int.eq_ofNat_of_zero_le hxr.2.2.2.1
       have hsN : sx < N := by have := hxr.2.2.1; simp only at this; omega
       have hdN : dx < N := by have := hxr.2.2.2.2; simp only at this; omega
       have HX := Lib.hid hx
       have HM := Lib.hid hm
       have HLT := Lib.hid hlt
       dsimp only at e0 e1 e2
       clear hx hm hxr
       go_upto_region 11 with fail
       refine wp_world (fun W => ∃ bx,bx = wr.heap.size ∧ Sep w.heap.size w [eBlk bx 76 [.int .i64 (sx : Int),.int .i64 ye,.int .i64 (dx : Int)],eBlk gi 4 (mkB N X'),eBlk w.heap.size 34 [.slice A1 al.length c1,.int .i64 (N : Int),.slice A2 mr.length c2,.slice (some ⟨b,off,none⟩) ed.length c3]] W) ⟨_,rfl,S1.out.alloc' _ [_,_,_] rfl rfl⟩ fun W S' => ?_
       obtain ⟨bx,hbx,S'⟩ := S'
       rw [← hbx]
       have S3 := Lib.hid S'
       clear S' hbx S1 e0 e1 e2
       have bx0 := qkC S3.out 0 rfl 0 rfl
       have bx1 := qkC S3.out 0 rfl 1 rfl
       have bx2 := qkC S3.out 0 rfl 2 rfl
       have cs := (BlkAt.cell (S3.out.get 1 rfl) sx).trans (mkB_get hsN)
       have cd := (BlkAt.cell (S3.out.get 1 rfl) dx).trans (mkB_get hdN)
       have hs0 : ((sx : Int)).toNat = sx := rfl
       have hd0 : ((dx : Int)).toNat = dx := rfl
       have CV := Lib.hid (containsV_c AV cV ev ye W (HV.out.below IntE.stays S3.out.below) (by omega))
       obtain ⟨u0,hu0⟩ : ∃ u,u = X' sx := ⟨_,rfl⟩
       obtain ⟨u1,hu1⟩ : ∃ u,u = X' dx := ⟨_,rfl⟩
       rw [← hu0] at cs
       rw [← hu1] at cd
       have HU0 := Lib.hid hu0.symm
       have HU1 := Lib.hid hu1.symm
       clear hu0 hu1
       cases u0
       · go_wp2_with fail
         go_roundw
         case rel => exact ⟨k + 1,X',ag,rfl,by go_num,HLT.out,U'.out,stepF F1.out HX.out (fun h => by rw [HU0.out] at h; cases h),F2.out,S3.out.drop1⟩
         case measure => simp [intOf]; omega
       · cases u1
         · go_wp2_with fail
           refine CV.out.mono ?_
           intro e w5 hs
           rcases hs.no1 with ⟨rfl,HN,rfl⟩ | ⟨rfl,HN,rfl⟩
           · go_wp2_with fail
             go_roundw
             case rel => exact ⟨k + 1,X',ag,rfl,by go_num,HLT.out,U'.out,stepF F1.out HX.out (fun _ h => absurd h HN.out),F2.out,S3.out.drop1⟩
             case measure => simp [intOf]; omega
           · have cf := BlkAt.free (S3.out.get 1 rfl) sx
             have S4 : Hid (Sep w.heap.size w [eBlk gi 4 (mkB N fun t => !decide (t = sx) && X' t),eBlk w.heap.size 34 [.slice A1 al.length c1,.int .i64 (N : Int),.slice A2 mr.length c2,.slice (some ⟨b,off,none⟩) ed.length c3]] (W.setCell ⟨gi,sx,none⟩ (.bool false))) := by
              have h := S3.out.set 1 rfl sx (.bool false)
              rw [mkB_clear] at h
              exact h.drop1
             go_wp2_with fail
             go_roundw
             case rel => exact ⟨k + 1,_,true,rfl,by go_num,HLT.out,U'.out.clear HM.out HU1.out HN.out,(fun h => by cases h),(fun _ => stepC F1.out F2.out hsN HU0.out),S4.out⟩
             case measure => simp [intOf]; omega
         · go_wp2_with fail
           go_roundw
           case rel => exact ⟨k + 1,X',ag,rfl,by go_num,HLT.out,U'.out,stepF F1.out HX.out (fun _ _ => HU1.out),F2.out,S3.out.drop1⟩
           case measure => simp [intOf]; omega
     · obtain rfl : k = ed.length := by omega
       have HW1 : Hid (wT wr gi N = cntT X' N) := wT_of (S1.out.get 0 rfl)
       have FIN : Hid (ag = false → IntOk ⟨al,(N : Int),mr,ed⟩ st ev X') := fun h => by
        obtain ⟨e,f⟩ := F1.out h
        subst e
        exact ⟨U'.out.1,fun x hx hs he => by
         obtain ⟨j,hj,hjx⟩ := List.mem_iff_getElem.1 hx
         exact f j x hj (by rw [List.getElem?_eq_getElem hj,hjx]) hs he,U'.out.2⟩
       have MEA : Hid (2 * cntT X' N + boolN (.bool ag) < 2 * cntT X N + boolN (.bool true)) := by
        cases ag
        · rw [(F1.out rfl).1]; simp [boolN,Hid]
        · have := F2.out rfl
          simp only [boolN,Hid]; omega
       go_wp2_with fail
       refine ⟨⟨X',ag,rfl,U'.out,FIN.out,S1.out⟩,?_⟩
       rw [HW1.out,HW0.out]
       exact MEA.out
end
def exB : Au := ⟨[0,1],4,[1],[⟨0,0,1⟩,⟨0,1,2⟩,⟨1,0,1⟩,⟨2,0,3⟩,⟨3,1,2⟩]⟩
theorem exB_right : exB.Right := by
 refine ⟨fun i x hi hx => ?_,by decide,by decide,fun i x hi hx => ?_,fun i hi x hx => ?_⟩
 · match i,hx with
   | 0,hx => simp [exB] at hx; subst hx; exact ⟨Int.le_refl _,by decide,fun y h0 => absurd h0 (by omega)⟩
   | 1,hx => simp [exB] at hx; subst hx; exact ⟨by decide,by decide,fun y _ hy => by simp [exB] at hy; subst hy; decide⟩
   | i + 2,hx => simp [exB] at hx
 · match i,hx with
   | 0,hx => simp [exB] at hx; subst hx; exact ⟨by decide,by decide,fun y h0 => absurd h0 (by omega)⟩
   | i + 1,hx => simp [exB] at hx
 · match i,hx with
   | 0,hx => simp [exB] at hx; subst hx; exact ⟨by decide,by decide,by decide,by decide,by decide,fun y h0 => absurd h0 (by omega)⟩
   | 1,hx => simp [exB] at hx; subst hx; exact ⟨by decide,by decide,by decide,by decide,by decide,fun y _ hy => by simp [exB] at hy; subst hy; decide⟩
   | 2,hx => simp [exB] at hx; subst hx; exact ⟨by decide,by decide,by decide,by decide,by decide,fun y _ hy => by simp [exB] at hy; subst hy; decide⟩
   | 3,hx => simp [exB] at hx; subst hx; exact ⟨by decide,by decide,by decide,by decide,by decide,fun y _ hy => by simp [exB] at hy; subst hy; decide⟩
   | 4,hx => simp [exB] at hx; subst hx; exact ⟨by decide,by decide,by decide,by decide,by decide,fun y _ hy => by simp [exB] at hy; subst hy; decide⟩
   | i + 5,hx => simp [exB] at hx
theorem exB_lens : Lens exB := ⟨by decide,by decide,by decide⟩
theorem exB_n0 (e : Int) : nextV exB.ed 0 e = if e = 0 then 1 else if e = 1 then 2 else -1 := by
 by_cases h : e = 0
 · subst h; decide
 · by_cases g : e = 1
   · subst g; decide
   · have h' : ¬ (0 : Int) = e := fun q => h q.symm
     have g' : ¬ (1 : Int) = e := fun q => g q.symm
     simp [nextV,exB,List.find?,h,g,h',g']
theorem exB_n1 (e : Int) : nextV exB.ed 1 e = if e = 0 then 1 else -1 := by
 by_cases h : e = 0
 · subst h; decide
 · have h' : ¬ (0 : Int) = e := fun q => h q.symm
   simp [nextV,exB,List.find?,h,h']
theorem exB_n2 (e : Int) : nextV exB.ed 2 e = if e = 0 then 3 else -1 := by
 by_cases h : e = 0
 · subst h; decide
 · have h' : ¬ (0 : Int) = e := fun q => h q.symm
   simp [nextV,exB,List.find?,h,h']
theorem exB_n3 (e : Int) : nextV exB.ed 3 e = if e = 1 then 2 else -1 := by
 by_cases h : e = 1
 · subst h; decide
 · have h' : ¬ (1 : Int) = e := fun q => h q.symm
   simp [nextV,exB,List.find?,h,h']
theorem exB_stay {P : Int → Prop} (hP : ∀ v e,P v → 0 ≤ v → P (nextV exB.ed v e)) : ∀ (w : List Int) (v : Int),P v → P (runV exB.ed v w) := by
 intro w
 induction w with
 | nil => intro v h; exact h
 | cons e r ih =>
   intro v h
   by_cases h0 : 0 ≤ v
   · rw [runV_cons h0]; exact ih _ (hP v e h h0)
   · rw [runV_neg _ (by omega)]; exact h
theorem exB_from1 (w : List Int) : runV exB.ed 1 w = 1 ∨ runV exB.ed 1 w = -1 := by
 refine exB_stay (P := fun v => v = 1 ∨ v = -1) (fun v e h h0 => ?_) w 1 (.inl rfl)
 obtain rfl : v = 1 := by omega
 rw [exB_n1]; split <;> omega
theorem exB_from23 {v : Int} (hv : v = 2 ∨ v = 3) (w : List Int) : runV exB.ed v w ≠ 1 := by
 have h := exB_stay (P := fun v => v = 2 ∨ v = 3 ∨ v = -1) (fun v e h h0 => by
  rcases h with rfl | rfl | rfl
  · rw [exB_n2]; split <;> omega
  · rw [exB_n3]; split <;> omega
  · omega) w v (by omega)
 intro g
 rw [g] at h
 omega
theorem exB_co {d : Nat → Int} (h : ∀ s : Nat,s < 4 → (0 ≤ d s ↔ ∃ u,runV exB.ed s u ∈ exB.mr)) : coV d 4 = [0,1] := by
 have h0 : 0 ≤ d 0 := (h 0 (by decide)).2 ⟨[0],by decide⟩
 have h1 : 0 ≤ d 1 := (h 1 (by decide)).2 ⟨[],by decide⟩
 have h2 : ¬ 0 ≤ d 2 := fun g => by
  obtain ⟨u,hu⟩ := (h 2 (by decide)).1 g
  exact exB_from23 (.inl rfl) u (List.mem_singleton.1 hu)
 have h3 : ¬ 0 ≤ d 3 := fun g => by
  obtain ⟨u,hu⟩ := (h 3 (by decide)).1 g
  exact exB_from23 (.inr rfl) u (List.mem_singleton.1 hu)
 rw [show (4 : Nat) = 3 + 1 from rfl,coV_no h3,show (3 : Nat) = 2 + 1 from rfl,coV_no h2,show (2 : Nat) = 1 + 1 from rfl,coV_yes h1,show (1 : Nat) = 0 + 1 from rfl,coV_yes h0]
 rfl
theorem exB_short {w : List Int} (h : runV exB.ed 0 w = 3) : 2 ≤ w.length := by
 match w,h with
 | [],h => exact absurd h (by decide)
 | [e],h =>
   rw [runV_cons (by decide),exB_n0] at h
   simp only [runV] at h
   split at h
   · omega
   · split at h <;> omega
 | _ :: _ :: _,_ => simp
theorem exB_dist {d : Nat → Int} (h : DistOk exB 4 [3] d) : mkI 4 d = [2,-1,1,0].map (Value.int .i64) := by
 have h3 : d 3 = 0 := by
  have := h 3 (by decide)
  have a := this.1.2 ⟨[],by decide⟩
  have b := this.2.2.1 [] (by decide)
  simp only [List.length_nil] at b
  omega
 have h2 : d 2 = 1 := by
  have := h 2 (by decide)
  have a := this.1.2 ⟨[0],by decide⟩
  have b := this.2.2.1 [0] (by decide)
  obtain ⟨w,hw,hr⟩ := this.2.1 a
  simp only [List.length_cons,List.length_nil] at b
  have c : d 2 ≠ 0 := fun g => by
   rw [g] at hw
   have : w = [] := List.length_eq_zero_iff.1 (by omega)
   subst this
   exact absurd hr (by decide)
  omega
 have h1 : d 1 = -1 := by
  have := h 1 (by decide)
  have a : ¬ 0 ≤ d 1 := fun g => by
   obtain ⟨u,hu⟩ := this.1.1 g
   have hu := List.mem_singleton.1 hu
   rcases exB_from1 u with q | q
   · rw [show ((1 : Nat) : Int) = 1 from rfl,q] at hu; omega
   · rw [show ((1 : Nat) : Int) = 1 from rfl,q] at hu; omega
  have := this.2.2.2
  omega
 have h0 : d 0 = 2 := by
  have := h 0 (by decide)
  have a := this.1.2 ⟨[1,0],by decide⟩
  have b := this.2.2.1 [1,0] (by decide)
  obtain ⟨w,hw,hr⟩ := this.2.1 a
  simp only [List.length_cons,List.length_nil] at b
  have := exB_short (List.mem_singleton.1 hr)
  omega
 simp [mkI,List.range,List.range.loop,h0,h1,h2,h3]
theorem exB_int {X : Nat → Bool} (h : IntOk exB [0,1,2] [0] X) : mkV X 4 = [0,1] := by
 have h3 : X 3 = false := by
  cases g : X 3
  · rfl
  · exact absurd (h.1 3 g) (by decide)
 have h2 : X 2 = false := by
  cases g : X 2
  · rfl
  · have := h.2.1 ⟨2,0,3⟩ (by decide) g (by decide)
    rw [show ((⟨2,0,3⟩ : Ed).dst).toNat = 3 from rfl,h3] at this
    cases this
 have hY := h.2.2 (fun s => decide (s = 0 ∨ s = 1)) (fun s hs => by
  rcases of_decide_eq_true hs with rfl | rfl <;> decide) (fun x hx hs he => by
  revert hs he
  revert x
  decide)
 have h0 : X 0 = true := hY 0 rfl
 have h1 : X 1 = true := hY 1 rfl
 rw [show (4 : Nat) = 3 + 1 from rfl,mkV_no h3,show (3 : Nat) = 2 + 1 from rfl,mkV_no h2,show (2 : Nat) = 1 + 1 from rfl,mkV_yes h1,show (1 : Nat) = 0 + 1 from rfl,mkV_yes h0]
 rfl
def pmB : Ed → Bool := fun x => decide (x.dst ∈ [(0 : Int),1,2,3])
theorem exB_s0 (e : Int) : stpP exB pmB 0 e = if e = 0 then 1 else if e = 1 then 2 else -1 := by
 by_cases h : e = 0
 · subst h; decide
 · by_cases g : e = 1
   · subst g; decide
   · have h' : ¬ (0 : Int) = e := fun q => h q.symm
     have g' : ¬ (1 : Int) = e := fun q => g q.symm
     simp [stpP,exB,List.find?,h,g,h',g']
theorem exB_s1 (e : Int) : stpP exB pmB 1 e = if e = 0 then 1 else -1 := by
 by_cases h : e = 0
 · subst h; decide
 · have h' : ¬ (0 : Int) = e := fun q => h q.symm
   simp [stpP,exB,List.find?,h,h']
theorem exB_s2 (e : Int) : stpP exB pmB 2 e = if e = 0 then 3 else -1 := by
 by_cases h : e = 0
 · subst h; decide
 · have h' : ¬ (0 : Int) = e := fun q => h q.symm
   simp [stpP,exB,List.find?,h,h']
theorem exB_sm (e : Int) : stpP exB pmB (-1) e = -1 := by simp [stpP,exB,List.find?]
theorem exB_path {f : Bool} {l : List Int} (h : PthW exB pmB 0 (fun s => decide (s ∈ [(3 : Int)])) f l) : f = true ∧ l = [1,0] := by
 have hl : LeadsTo (stpP exB pmB) 0 ev32 (fun v => 0 ≤ v ∧ decide (v ∈ [(3 : Int)]) = true) [1,0] := ⟨by decide,by decide⟩
 rcases h with ⟨rfl,h⟩ | ⟨_,_,h⟩
 · refine ⟨rfl,?_⟩
   have hlen : l.length ≤ 2 := by
    rcases h.le _ hl with g | g
    · rcases g with g | g
      · have : ([1,0] : List Int).length = 2 := rfl
        omega
      · have : ([1,0] : List Int).length = 2 := rfl
        omega
    · rw [g]; exact Nat.le_refl _
   have hr := h.is.2.2
   match l,hlen,hr with
   | [],_,hr => exact absurd hr (by decide)
   | [e],_,hr =>
     have hr := List.mem_singleton.1 (of_decide_eq_true hr)
     simp only [List.foldl_cons,List.foldl_nil] at hr
     rw [exB_s0] at hr
     split at hr
     · omega
     · split at hr <;> omega
   | [e,g],_,hr =>
     have hr := List.mem_singleton.1 (of_decide_eq_true hr)
     simp only [List.foldl_cons,List.foldl_nil] at hr
     rw [exB_s0] at hr
     split at hr
     · rw [exB_s1] at hr; split at hr <;> omega
     · split at hr
       · rw [exB_s2] at hr
         split at hr
         · subst_vars; rfl
         · omega
       · rw [exB_sm] at hr; omega
   | _ :: _ :: _ :: _,hlen,_ => simp at hlen
 · exact absurd hl (h _)
theorem setOk_dec {l : List Int} {n : Int} (h1 : ∀ x,x ∈ l → 0 ≤ x ∧ x < n) (h2 : l.Pairwise (· < ·)) : setOk l n l.length := fun i x hi hx => by
 have hm := h1 x (List.mem_of_getElem? hx)
 refine ⟨hm.1,hm.2,fun y h0 hy => ?_⟩
 obtain ⟨a1,a2⟩ := List.getElem?_eq_some_iff.1 hx
 obtain ⟨b1,b2⟩ := List.getElem?_eq_some_iff.1 hy
 have := List.pairwise_iff_getElem.1 h2 (i - 1) i b1 a1 (by omega)
 rw [a2,b2] at this
 exact this
def GivesEx4 (w : World) (e : Ending) (w' : World) : Prop := ∃ X1 x1 X2 x2 X3 x3,e = .returned (.agg #[.slice X1 2 x1,.int .i64 4,.slice X2 1 x2,.slice X3 5 x3]) ∧ Hid (Sep w.heap.size w [eInts [0,1] (.slice X1 2 x1),eInts [1] (.slice X2 1 x2),eEds exB.ed (.slice X3 5 x3)] w')
set_option maxHeartbeats 1000000 in
theorem example4_c (w : World) : Calls Tryz.prog 82 #[] w (GivesEx4 w) := by
 go_enter Tryz.func82,Tryz.ntmps82
 go_upto_region 1 with fail
 refine wp_world (fun W => Sep w.heap.size w [eBlk w.heap.size 34 [.slice none 0 0,.int .i64 0,.slice none 0 0,.slice none 0 0]] W) ?_ fun W S => ?_
 · exact (Sep.here w).alloc' _ [_,_,_,_] rfl rfl
 have S1 := (S.alloc' 3 [.int .i64 0,.int .i64 1] rfl (g := W.heap.size) rfl).own 0 rfl encI 1 [0,1] rfl (fun _ => rfl) (by decide)
 have S2 := (S1.alloc' 3 [.int .i64 1] rfl (g := W.heap.size + 1) (by simp)).own 0 rfl encI 1 [1] rfl (fun _ => rfl) (by decide)
 have S3 := (S2.alloc' 76 [.int .i64 0,.int .i64 0,.int .i64 1,.int .i64 0,.int .i64 1,.int .i64 2,.int .i64 1,.int .i64 0,.int .i64 1,.int .i64 2,.int .i64 0,.int .i64 3,.int .i64 3,.int .i64 1,.int .i64 2] rfl (g := W.heap.size + 1 + 1) (by simp)).own 0 rfl Ed.cells 3 exB.ed rfl (fun _ => rfl) (by decide)
 have c0 := qkC S3 3 rfl 0 rfl
 have c1 := qkC S3 3 rfl 1 rfl
 have c2 := qkC S3 3 rfl 2 rfl
 have c3 := qkC S3 3 rfl 3 rfl
 have f0 := BlkAt.free (S3.get 3 rfl) 0
 have f1 := BlkAt.free (S3.get 3 rfl) 1
 have f2 := BlkAt.free (S3.get 3 rfl) 2
 have f3 := BlkAt.free (S3.get 3 rfl) 3
 have S4 := Lib.hid ((((S3.set 3 rfl 0 (.slice (some ⟨W.heap.size,0,none⟩) 2 2)).set 3 rfl 1 (.int .i64 4)).set 3 rfl 2 (.slice (some ⟨W.heap.size + 1,0,none⟩) 1 1)).set 3 rfl 3 (.slice (some ⟨W.heap.size + 1 + 1,0,none⟩) 5 5))
 have t0 := BlkAt.cell (S4.out.get 3 rfl) 0
 have t1 := BlkAt.cell (S4.out.get 3 rfl) 1
 have t2 := BlkAt.cell (S4.out.get 3 rfl) 2
 have t3 := BlkAt.cell (S4.out.get 3 rfl) 3
 simp only [List.set_cons_succ,List.set_cons_zero,List.getElem?_cons_succ,List.getElem?_cons_zero] at t0 t1 t2 t3
 clear S S1 S2 S3
 go_wp2_with fail
 refine bodyPost_ret (v := .agg #[.slice (some ⟨W.heap.size,0,none⟩) 2 2,.int .i64 4,.slice (some ⟨W.heap.size + 1,0,none⟩) 1 1,.slice (some ⟨W.heap.size + 1 + 1,0,none⟩) 5 5]) (by simp [results,Tryz.results82,go_sem, *]) rfl ?_
 exact ⟨_,_,_,_,_,_,rfl,S4.out.pick [2,1,0] (by decide)⟩
set_option maxHeartbeats 4000000 in
theorem known4_c (w : World) : Calls Tryz.prog 52 #[] w (Ret (.bool true) w) := by
 go_enter Tryz.func52,Tryz.ntmps52
 have S : Hid (Sep w.heap.size w [] w) := Sep.here w
 go_wp2_with fail
 refine (example4_c w).mono ?_
 rintro e w1 ⟨X1,x1,X2,x2,X3,x3,rfl,T⟩
 have A0 : Hid (Au.At w1 exB ⟨X1,x1,X2,x2,X3,x3⟩) := Sep.au (m := exB) (p := ⟨X1,x1,X2,x2,X3,x3⟩) (es := []) T.out exB_lens
 have K0 : Hid (Caps exB ⟨X1,x1,X2,x2,X3,x3⟩) := Sep.auCaps (m := exB) (p := ⟨X1,x1,X2,x2,X3,x3⟩) (es := []) T.out
 replace S : Hid (Sep w.heap.size w [] w1) := S.out.next T.out.below
 clear T
 have CC : Hid (Calls Tryz.prog 81 #[.agg #[.slice X1 2 x1,.int .i64 4,.slice X2 1 x2,.slice X3 5 x3]] w1 (GivesKp exB w1)) := coreachable_c exB ⟨X1,x1,X2,x2,X3,x3⟩ w1 exB_right A0.out
 clear A0 K0
 go_wp2_with fail
 refine CC.out.mono ?_
 clear CC
 rintro e w2 ⟨d,AC,cC,he,T,HK⟩
 rw [show coV d exB.n.toNat = [0,1] from exB_co HK.out] at he T
 subst he
 have HC : Hid (IntsAt w2 AC [0,1]) := T.out.ints 0 rfl
 replace S : Hid (Sep w.heap.size w [] w2) := S.out.next T.out.below
 clear T HK
 go_wp2_with fail
 refine (example4_c w2).mono ?_
 rintro e w3 ⟨X1,x1,X2,x2,X3,x3,rfl,T⟩
 have A0 : Hid (Au.At w3 exB ⟨X1,x1,X2,x2,X3,x3⟩) := Sep.au (m := exB) (p := ⟨X1,x1,X2,x2,X3,x3⟩) (es := []) T.out exB_lens
 have K0 : Hid (Caps exB ⟨X1,x1,X2,x2,X3,x3⟩) := Sep.auCaps (m := exB) (p := ⟨X1,x1,X2,x2,X3,x3⟩) (es := []) T.out
 replace S : Hid (Sep w.heap.size w [] w3) := S.out.next T.out.below
 replace HC : Hid (IntsAt w3 AC [0,1]) := HC.out.below IntE.stays T.out.below
 clear T
 obtain ⟨W4,h4⟩ : ∃ W,W = w3.alloc (.cells #[.int .i64 3] 3) := ⟨_,rfl⟩
 have B9 : Below w3.heap.size w3 W4 := by rw [h4]; exact Below.new w3 _
 have I4 : Hid (IntsAt W4 (some ⟨w3.heap.size,0,none⟩) [3]) := by
  rw [h4]; exact ints_new w3 [3]
 replace A0 : Hid (Au.At W4 exB ⟨X1,x1,X2,x2,X3,x3⟩) := A0.out.below B9
 replace S : Hid (Sep w.heap.size w [] W4) := S.out.next B9
 replace HC : Hid (IntsAt W4 AC [0,1]) := HC.out.below IntE.stays B9
 clear B9
 have CC : Hid (Calls Tryz.prog 83 #[.agg #[.slice X1 2 x1,.int .i64 4,.slice X2 1 x2,.slice X3 5 x3],.slice (some ⟨w3.heap.size,0,none⟩) 1 1] W4 (GivesDs exB [3] W4)) := distances_c exB ⟨X1,x1,X2,x2,X3,x3⟩ (some ⟨w3.heap.size,0,none⟩) 1 [3] W4 exB_right A0.out I4.out (setOk_dec (by decide) (by decide))
 clear A0 K0 I4
 rw [h4] at CC
 go_wp2_with fail
 refine CC.out.mono ?_
 clear CC
 rintro e w5 ⟨gd,d,he,T,HK⟩
 rw [← h4] at T
 rw [show mkI exB.n.toNat d = [2,-1,1,0].map (Value.int .i64) from exB_dist HK.out] at T
 subst he
 have HD : Hid (IntsAt w5 (some ⟨gd,0,none⟩) [2,-1,1,0]) := IntsAt.blk [2,-1,1,0] (T.out.get 0 rfl)
 replace S : Hid (Sep w.heap.size w [] w5) := S.out.next T.out.below
 replace HC : Hid (IntsAt w5 AC [0,1]) := HC.out.below IntE.stays T.out.below
 clear T HK h4
 go_wp2_with fail
 refine (example4_c w5).mono ?_
 rintro e w6 ⟨X1,x1,X2,x2,X3,x3,rfl,T⟩
 have A0 : Hid (Au.At w6 exB ⟨X1,x1,X2,x2,X3,x3⟩) := Sep.au (m := exB) (p := ⟨X1,x1,X2,x2,X3,x3⟩) (es := []) T.out exB_lens
 have K0 : Hid (Caps exB ⟨X1,x1,X2,x2,X3,x3⟩) := Sep.auCaps (m := exB) (p := ⟨X1,x1,X2,x2,X3,x3⟩) (es := []) T.out
 replace S : Hid (Sep w.heap.size w [] w6) := S.out.next T.out.below
 replace HC : Hid (IntsAt w6 AC [0,1]) := HC.out.below IntE.stays T.out.below
 replace HD : Hid (IntsAt w6 (some ⟨gd,0,none⟩) [2,-1,1,0]) := HD.out.below IntE.stays T.out.below
 clear T
 obtain ⟨W7,h7⟩ : ∃ W,W = w6.alloc (.cells #[.int .i64 3] 3) := ⟨_,rfl⟩
 have B9 : Below w6.heap.size w6 W7 := by rw [h7]; exact Below.new w6 _
 have I7 : Hid (IntsAt W7 (some ⟨w6.heap.size,0,none⟩) [3]) := by
  rw [h7]; exact ints_new w6 [3]
 replace A0 : Hid (Au.At W7 exB ⟨X1,x1,X2,x2,X3,x3⟩) := A0.out.below B9
 replace S : Hid (Sep w.heap.size w [] W7) := S.out.next B9
 replace HC : Hid (IntsAt W7 AC [0,1]) := HC.out.below IntE.stays B9
 replace HD : Hid (IntsAt W7 (some ⟨gd,0,none⟩) [2,-1,1,0]) := HD.out.below IntE.stays B9
 clear B9
 have z7 : W7.heap.size = w6.heap.size + 1 := by rw [h7]; simp
 obtain ⟨W8,h8⟩ : ∃ W,W = W7.alloc (.cells #[.int .i64 0,.int .i64 1,.int .i64 2,.int .i64 3] 3) := ⟨_,rfl⟩
 have B9 : Below W7.heap.size W7 W8 := by rw [h8]; exact Below.new W7 _
 have I8 : Hid (IntsAt W8 (some ⟨w6.heap.size + 1,0,none⟩) [0,1,2,3]) := by
  rw [← z7]; rw [h8]; exact ints_new W7 [0,1,2,3]
 replace A0 : Hid (Au.At W8 exB ⟨X1,x1,X2,x2,X3,x3⟩) := A0.out.below B9
 replace S : Hid (Sep w.heap.size w [] W8) := S.out.next B9
 replace HC : Hid (IntsAt W8 AC [0,1]) := HC.out.below IntE.stays B9
 replace HD : Hid (IntsAt W8 (some ⟨gd,0,none⟩) [2,-1,1,0]) := HD.out.below IntE.stays B9
 replace I7 : Hid (IntsAt W8 (some ⟨w6.heap.size,0,none⟩) [3]) := I7.out.below IntE.stays B9
 clear B9
 have CC : Hid (Calls Tryz.prog 84 #[.agg #[.slice X1 2 x1,.int .i64 4,.slice X2 1 x2,.slice X3 5 x3],.int .i64 0,.slice (some ⟨w6.heap.size,0,none⟩) 1 1,.slice (some ⟨w6.heap.size + 1,0,none⟩) 4 4] W8 (GivesPath exB 0 [3] [0,1,2,3] W8)) := pathR_c exB ⟨X1,x1,X2,x2,X3,x3⟩ 0 (some ⟨w6.heap.size,0,none⟩) (some ⟨w6.heap.size + 1,0,none⟩) 1 4 [3] [0,1,2,3] W8 exB_right K0.out A0.out (by decide) I7.out I8.out (setOk_dec (by decide) (by decide)) (setOk_dec (by decide) (by decide))
 clear A0 K0 I7 I8 z7
 rw [h8,h7] at CC
 go_wp2_with fail
 refine CC.out.mono ?_
 clear CC
 rintro e w9 ⟨AP,cP,l,f,he,T,hb,HK⟩
 rw [← h7,← h8] at hb
 obtain ⟨rfl,rfl⟩ := exB_path (HK.out.1 (by decide))
 subst he
 have HP : Hid (IntsAt w9 AP [1,0]) := T.out
 replace S : Hid (Sep w.heap.size w [] w9) := S.out.next hb
 replace HC : Hid (IntsAt w9 AC [0,1]) := HC.out.below IntE.stays hb
 replace HD : Hid (IntsAt w9 (some ⟨gd,0,none⟩) [2,-1,1,0]) := HD.out.below IntE.stays hb
 clear T HK h7 h8 hb
 go_wp2_with fail
 refine (example4_c w9).mono ?_
 rintro e w10 ⟨X1,x1,X2,x2,X3,x3,rfl,T⟩
 have A0 : Hid (Au.At w10 exB ⟨X1,x1,X2,x2,X3,x3⟩) := Sep.au (m := exB) (p := ⟨X1,x1,X2,x2,X3,x3⟩) (es := []) T.out exB_lens
 have K0 : Hid (Caps exB ⟨X1,x1,X2,x2,X3,x3⟩) := Sep.auCaps (m := exB) (p := ⟨X1,x1,X2,x2,X3,x3⟩) (es := []) T.out
 replace S : Hid (Sep w.heap.size w [] w10) := S.out.next T.out.below
 replace HC : Hid (IntsAt w10 AC [0,1]) := HC.out.below IntE.stays T.out.below
 replace HD : Hid (IntsAt w10 (some ⟨gd,0,none⟩) [2,-1,1,0]) := HD.out.below IntE.stays T.out.below
 replace HP : Hid (IntsAt w10 AP [1,0]) := HP.out.below IntE.stays T.out.below
 clear T
 obtain ⟨W11,h11⟩ : ∃ W,W = w10.alloc (.cells #[.int .i64 0,.int .i64 1,.int .i64 2] 3) := ⟨_,rfl⟩
 have B9 : Below w10.heap.size w10 W11 := by rw [h11]; exact Below.new w10 _
 have I11 : Hid (IntsAt W11 (some ⟨w10.heap.size,0,none⟩) [0,1,2]) := by
  rw [h11]; exact ints_new w10 [0,1,2]
 replace A0 : Hid (Au.At W11 exB ⟨X1,x1,X2,x2,X3,x3⟩) := A0.out.below B9
 replace S : Hid (Sep w.heap.size w [] W11) := S.out.next B9
 replace HC : Hid (IntsAt W11 AC [0,1]) := HC.out.below IntE.stays B9
 replace HD : Hid (IntsAt W11 (some ⟨gd,0,none⟩) [2,-1,1,0]) := HD.out.below IntE.stays B9
 replace HP : Hid (IntsAt W11 AP [1,0]) := HP.out.below IntE.stays B9
 clear B9
 have z11 : W11.heap.size = w10.heap.size + 1 := by rw [h11]; simp
 obtain ⟨W12,h12⟩ : ∃ W,W = W11.alloc (.cells #[.int .i64 0] 3) := ⟨_,rfl⟩
 have B9 : Below W11.heap.size W11 W12 := by rw [h12]; exact Below.new W11 _
 have I12 : Hid (IntsAt W12 (some ⟨w10.heap.size + 1,0,none⟩) [0]) := by
  rw [← z11]; rw [h12]; exact ints_new W11 [0]
 replace A0 : Hid (Au.At W12 exB ⟨X1,x1,X2,x2,X3,x3⟩) := A0.out.below B9
 replace S : Hid (Sep w.heap.size w [] W12) := S.out.next B9
 replace HC : Hid (IntsAt W12 AC [0,1]) := HC.out.below IntE.stays B9
 replace HD : Hid (IntsAt W12 (some ⟨gd,0,none⟩) [2,-1,1,0]) := HD.out.below IntE.stays B9
 replace HP : Hid (IntsAt W12 AP [1,0]) := HP.out.below IntE.stays B9
 replace I11 : Hid (IntsAt W12 (some ⟨w10.heap.size,0,none⟩) [0,1,2]) := I11.out.below IntE.stays B9
 clear B9
 have CC : Hid (Calls Tryz.prog 85 #[.agg #[.slice X1 2 x1,.int .i64 4,.slice X2 1 x2,.slice X3 5 x3],.slice (some ⟨w10.heap.size,0,none⟩) 3 3,.slice (some ⟨w10.heap.size + 1,0,none⟩) 1 1] W12 (GivesInt exB [0,1,2] [0] W12)) := interior_c exB ⟨X1,x1,X2,x2,X3,x3⟩ (some ⟨w10.heap.size,0,none⟩) (some ⟨w10.heap.size + 1,0,none⟩) 3 1 [0,1,2] [0] W12 exB_right A0.out I11.out I12.out (setOk_dec (by decide) (by decide)) (setOk_dec (by decide) (by decide))
 clear A0 K0 I11 I12 z11
 rw [h12,h11] at CC
 go_wp2_with fail
 refine CC.out.mono ?_
 clear CC
 rintro e w13 ⟨AI,cI,X,he,T,hb,HK⟩
 rw [← h11,← h12] at hb
 rw [show mkV X exB.n.toNat = [0,1] from exB_int HK.out] at he T
 subst he
 have HI : Hid (IntsAt w13 AI [0,1]) := T.out
 replace S : Hid (Sep w.heap.size w [] w13) := S.out.next hb
 replace HC : Hid (IntsAt w13 AC [0,1]) := HC.out.below IntE.stays hb
 replace HD : Hid (IntsAt w13 (some ⟨gd,0,none⟩) [2,-1,1,0]) := HD.out.below IntE.stays hb
 replace HP : Hid (IntsAt w13 AP [1,0]) := HP.out.below IntE.stays hb
 clear T HK h11 h12 hb
 dsimp only [List.length_cons,List.length_nil,Nat.zero_add]
 obtain ⟨W14,h14⟩ : ∃ W,W = w13.alloc (.cells #[.int .i64 0,.int .i64 1] 3) := ⟨_,rfl⟩
 have B9 : Below w13.heap.size w13 W14 := by rw [h14]; exact Below.new w13 _
 have I9 : Hid (IntsAt W14 (some ⟨w13.heap.size,0,none⟩) [0,1]) := by
  rw [h14]; exact ints_new w13 [0,1]
 replace S : Hid (Sep w.heap.size w [] W14) := S.out.next B9
 replace HC : Hid (IntsAt W14 AC [0,1]) := HC.out.below IntE.stays B9
 replace HD : Hid (IntsAt W14 (some ⟨gd,0,none⟩) [2,-1,1,0]) := HD.out.below IntE.stays B9
 replace HP : Hid (IntsAt W14 AP [1,0]) := HP.out.below IntE.stays B9
 replace HI : Hid (IntsAt W14 AI [0,1]) := HI.out.below IntE.stays B9
 clear B9
 have CC : Hid (Calls Tryz.prog 86 #[.slice AC 2 cC,.slice (some ⟨w13.heap.size,0,none⟩) 2 2] W14 (Tells (([0,1] : List Int) = [0,1]) W14)) := same4_c AC (some ⟨w13.heap.size,0,none⟩) cC 2 [0,1] [0,1] W14 HC.out I9.out (by decide) (by decide)
 clear I9
 rw [h14] at CC
 go_wp2_with fail
 refine CC.out.mono ?_
 clear CC
 intro e w15 hs
 rw [← h14] at hs
 obtain ⟨rfl,hb⟩ := hs.yes2 (by first | rfl | trivial)
 replace S : Hid (Sep w.heap.size w [] w15) := S.out.next hb
 replace HC : Hid (IntsAt w15 AC [0,1]) := HC.out.below IntE.stays hb
 replace HD : Hid (IntsAt w15 (some ⟨gd,0,none⟩) [2,-1,1,0]) := HD.out.below IntE.stays hb
 replace HP : Hid (IntsAt w15 AP [1,0]) := HP.out.below IntE.stays hb
 replace HI : Hid (IntsAt w15 AI [0,1]) := HI.out.below IntE.stays hb
 clear hs hb h14
 obtain ⟨W16,h16⟩ : ∃ W,W = w15.alloc (.cells #[.int .i64 2,.int .i64 (-1),.int .i64 1,.int .i64 0] 3) := ⟨_,rfl⟩
 have B9 : Below w15.heap.size w15 W16 := by rw [h16]; exact Below.new w15 _
 have I9 : Hid (IntsAt W16 (some ⟨w15.heap.size,0,none⟩) [2,-1,1,0]) := by
  rw [h16]; exact ints_new w15 [2,-1,1,0]
 replace S : Hid (Sep w.heap.size w [] W16) := S.out.next B9
 replace HC : Hid (IntsAt W16 AC [0,1]) := HC.out.below IntE.stays B9
 replace HD : Hid (IntsAt W16 (some ⟨gd,0,none⟩) [2,-1,1,0]) := HD.out.below IntE.stays B9
 replace HP : Hid (IntsAt W16 AP [1,0]) := HP.out.below IntE.stays B9
 replace HI : Hid (IntsAt W16 AI [0,1]) := HI.out.below IntE.stays B9
 clear B9
 have CC : Hid (Calls Tryz.prog 86 #[.slice (some ⟨gd,0,none⟩) 4 4,.slice (some ⟨w15.heap.size,0,none⟩) 4 4] W16 (Tells (([2,-1,1,0] : List Int) = [2,-1,1,0]) W16)) := same4_c (some ⟨gd,0,none⟩) (some ⟨w15.heap.size,0,none⟩) 4 4 [2,-1,1,0] [2,-1,1,0] W16 HD.out I9.out (by decide) (by decide)
 clear I9
 rw [h16] at CC
 go_wp2_with fail
 refine CC.out.mono ?_
 clear CC
 intro e w17 hs
 rw [← h16] at hs
 obtain ⟨rfl,hb⟩ := hs.yes2 (by first | rfl | trivial)
 replace S : Hid (Sep w.heap.size w [] w17) := S.out.next hb
 replace HC : Hid (IntsAt w17 AC [0,1]) := HC.out.below IntE.stays hb
 replace HD : Hid (IntsAt w17 (some ⟨gd,0,none⟩) [2,-1,1,0]) := HD.out.below IntE.stays hb
 replace HP : Hid (IntsAt w17 AP [1,0]) := HP.out.below IntE.stays hb
 replace HI : Hid (IntsAt w17 AI [0,1]) := HI.out.below IntE.stays hb
 clear hs hb h16
 obtain ⟨W18,h18⟩ : ∃ W,W = w17.alloc (.cells #[.int .i64 1,.int .i64 0] 3) := ⟨_,rfl⟩
 have B9 : Below w17.heap.size w17 W18 := by rw [h18]; exact Below.new w17 _
 have I9 : Hid (IntsAt W18 (some ⟨w17.heap.size,0,none⟩) [1,0]) := by
  rw [h18]; exact ints_new w17 [1,0]
 replace S : Hid (Sep w.heap.size w [] W18) := S.out.next B9
 replace HC : Hid (IntsAt W18 AC [0,1]) := HC.out.below IntE.stays B9
 replace HD : Hid (IntsAt W18 (some ⟨gd,0,none⟩) [2,-1,1,0]) := HD.out.below IntE.stays B9
 replace HP : Hid (IntsAt W18 AP [1,0]) := HP.out.below IntE.stays B9
 replace HI : Hid (IntsAt W18 AI [0,1]) := HI.out.below IntE.stays B9
 clear B9
 have CC : Hid (Calls Tryz.prog 86 #[.slice AP 2 cP,.slice (some ⟨w17.heap.size,0,none⟩) 2 2] W18 (Tells (([1,0] : List Int) = [1,0]) W18)) := same4_c AP (some ⟨w17.heap.size,0,none⟩) cP 2 [1,0] [1,0] W18 HP.out I9.out (by decide) (by decide)
 clear I9
 rw [h18] at CC
 go_wp2_with fail
 refine CC.out.mono ?_
 clear CC
 intro e w19 hs
 rw [← h18] at hs
 obtain ⟨rfl,hb⟩ := hs.yes2 (by first | rfl | trivial)
 replace S : Hid (Sep w.heap.size w [] w19) := S.out.next hb
 replace HC : Hid (IntsAt w19 AC [0,1]) := HC.out.below IntE.stays hb
 replace HD : Hid (IntsAt w19 (some ⟨gd,0,none⟩) [2,-1,1,0]) := HD.out.below IntE.stays hb
 replace HP : Hid (IntsAt w19 AP [1,0]) := HP.out.below IntE.stays hb
 replace HI : Hid (IntsAt w19 AI [0,1]) := HI.out.below IntE.stays hb
 clear hs hb h18
 obtain ⟨W20,h20⟩ : ∃ W,W = w19.alloc (.cells #[.int .i64 0,.int .i64 1] 3) := ⟨_,rfl⟩
 have B9 : Below w19.heap.size w19 W20 := by rw [h20]; exact Below.new w19 _
 have I9 : Hid (IntsAt W20 (some ⟨w19.heap.size,0,none⟩) [0,1]) := by
  rw [h20]; exact ints_new w19 [0,1]
 replace S : Hid (Sep w.heap.size w [] W20) := S.out.next B9
 replace HC : Hid (IntsAt W20 AC [0,1]) := HC.out.below IntE.stays B9
 replace HD : Hid (IntsAt W20 (some ⟨gd,0,none⟩) [2,-1,1,0]) := HD.out.below IntE.stays B9
 replace HP : Hid (IntsAt W20 AP [1,0]) := HP.out.below IntE.stays B9
 replace HI : Hid (IntsAt W20 AI [0,1]) := HI.out.below IntE.stays B9
 clear B9
 have CC : Hid (Calls Tryz.prog 86 #[.slice AI 2 cI,.slice (some ⟨w19.heap.size,0,none⟩) 2 2] W20 (Tells (([0,1] : List Int) = [0,1]) W20)) := same4_c AI (some ⟨w19.heap.size,0,none⟩) cI 2 [0,1] [0,1] W20 HI.out I9.out (by decide) (by decide)
 clear I9
 rw [h20] at CC
 go_wp2_with fail
 refine CC.out.mono ?_
 clear CC
 intro e w21 hs
 rw [← h20] at hs
 obtain ⟨rfl,hb⟩ := hs.yes2 (by first | rfl | trivial)
 replace S : Hid (Sep w.heap.size w [] w21) := S.out.next hb
 replace HC : Hid (IntsAt w21 AC [0,1]) := HC.out.below IntE.stays hb
 replace HD : Hid (IntsAt w21 (some ⟨gd,0,none⟩) [2,-1,1,0]) := HD.out.below IntE.stays hb
 replace HP : Hid (IntsAt w21 AP [1,0]) := HP.out.below IntE.stays hb
 replace HI : Hid (IntsAt w21 AI [0,1]) := HI.out.below IntE.stays hb
 clear hs hb h20
 have SB := Lib.hid S.out.below
 clear S HC HD HP HI
 go_wp2_with fail
 go_ret
 exact ⟨rfl,SB.out⟩
theorem knownE4_c (w : World) : Calls Tryz.prog 26 #[] w (Ret (.bool true) w) := by
 go_enter Tryz.func26,Tryz.ntmps26
 go_wp2_with fail
 refine (known4_c w).mono ?_
 rintro e w1 ⟨rfl,hb⟩
 have HB := Lib.hid hb
 clear hb
 go_wp2_with fail
 go_ret
 exact ⟨rfl,HB.out⟩
section
attribute [local go_sem] Oper.semAt_some

structure Sm4 where
 s : Int
 m : Int
 g : List Int
def Sm4.cells (d : Sm4) : List Value := .int .u8 d.s :: .int .u8 d.m :: d.g.map (.int .u8)
structure Sm4.Ok (d : Sm4) : Prop where
 s0 : 0 ≤ d.s
 s1 : d.s < 256
 m0 : 0 ≤ d.m
 m1 : d.m < 256
 l : d.g.length = 24
 rg : ∀ x,x ∈ d.g → 0 ≤ x ∧ x < 256
def bit4 (m : Int) (i : Nat) : Bool := (bits BinOp.and IntKind.u8 (m / 2 ^ i) 1 == 1)
def Sm4.t (d : Sm4) (i j : Nat) : Int := d.g.getD (i * 4 + j) 0 % 7 - 1
def Sm4.has (d : Sm4) (N i j : Nat) : Bool := decide (0 ≤ d.t i j) && decide (d.t i j < (N : Int))
def Sm4.row (d : Sm4) (N i k : Nat) : List Ed := ((List.range k).filter (d.has N i)).map fun j : Nat => ⟨(i : Int),(j : Int),d.t i j⟩
def Sm4.eds (d : Sm4) (N k : Nat) : List Ed := (List.range k).flatMap fun i => d.row N i 4
def Sm4.ms (d : Sm4) (k : Nat) : List Int := mkV (bit4 d.m) k
def Sm4.n (d : Sm4) : Nat := (1 + d.s % 6).toNat
def Sm4.au (d : Sm4) : Au := ⟨[0,1,2,3],(d.n : Int),d.ms d.n,d.eds d.n d.n⟩
theorem Sm4.row_yes {d : Sm4} {N i k : Nat} (h : d.has N i k = true) : d.row N i (k + 1) = d.row N i k ++ [⟨(i : Int),(k : Int),d.t i k⟩] := by simp [Sm4.row,List.range_succ,List.filter_append,h]
theorem Sm4.row_no {d : Sm4} {N i k : Nat} (h : d.has N i k = false) : d.row N i (k + 1) = d.row N i k := by simp [Sm4.row,List.range_succ,List.filter_append,h]
theorem Sm4.eds_next (d : Sm4) (N k : Nat) : d.eds N (k + 1) = d.eds N k ++ d.row N k 4 := by simp [Sm4.eds,List.range_succ,List.flatMap_append]
theorem Sm4.row_len (d : Sm4) (N i k : Nat) : (d.row N i k).length ≤ k := by
 have := List.length_filter_le (d.has N i) (List.range k)
 simpa [Sm4.row] using this
theorem Sm4.eds_len (d : Sm4) (N k : Nat) : (d.eds N k).length ≤ k * 4 := by
 induction k with
 | zero => simp [Sm4.eds]
 | succ k ih =>
   have := d.row_len N k 4
   rw [Sm4.eds_next,List.length_append]
   omega
def GivesM4 (d : Sm4) (w : World) (e : Ending) (w' : World) : Prop := ∃ p,e = .returned (d.au.val p) ∧ Hid (Sep w.heap.size w (eAu d.au p) w')
set_option maxHeartbeats 4000000 in
theorem make4_c (d : Sm4) (w : World) (hd : d.Ok) : Calls Tryz.prog 27 #[.agg d.cells.toArray] w (GivesM4 d w) := by
 have HD := Lib.hid hd
 have k0 : d.cells[0]? = some (.int .u8 d.s) := rfl
 have k1 : d.cells[1]? = some (.int .u8 d.m) := rfl
 have s0 := hd.s0
 have s1 := hd.s1
 clear hd
 obtain ⟨N,hN⟩ : ∃ N : Nat,N = d.n := ⟨_,rfl⟩
 have hNs : 1 + d.s % 6 = (N : Int) := by rw [hN]; unfold Sm4.n; omega
 have hN6 : N ≤ 6 := by omega
 have HN := Lib.hid hN
 clear hN
 go_enter Tryz.func27,Tryz.ntmps27
 generalize hcs : d.cells = cs at *
 go_upto_region 1 with fail
 refine wp_world (fun W => W.heap.size = w.heap.size + 2 ∧ Sep w.heap.size w [eBlk (w.heap.size + 1) 34 [.slice none 0 0,.int .i64 0,.slice none 0 0,.slice none 0 0],eBlk w.heap.size 25 cs] W) ?_ fun W0 S => ?_
 · exact ⟨by simp,(((Sep.here w).alloc' _ cs rfl rfl).alloc' _ [_,_,_,_] rfl (by simp))⟩
 obtain ⟨z0,S⟩ := S
 have z1 : w.heap.size < W0.heap.size := by omega
 have q0 := (BlkAt.cell (S.get 1 rfl) 0).trans k0
 have SZ : Hid (Sep w.heap.size w [eBlk (w.heap.size + 1) 34 [.slice none 0 0,.int .i64 0,.slice none 0 0,.slice none 0 0],eBlk w.heap.size 25 cs] W0) := S
 clear S
 go_upto_region 2 with fail
 refine wp_world (fun W => Sep w.heap.size w [eInts [] (.slice none 0 0),eEds [] (.slice none 0 0),eBlk (w.heap.size + 2 + 1) 34 [.slice (some ⟨w.heap.size + 2,0,none⟩) 4 4,.int .i64 (N : Int),.slice none 0 0,.slice none 0 0],eInts [0,1,2,3] (.slice (some ⟨w.heap.size + 2,0,none⟩) 4 4),eBlk (w.heap.size + 1) 34 [.slice none 0 0,.int .i64 0,.slice none 0 0,.slice none 0 0],eBlk w.heap.size 25 cs] W) ?_ fun W1 S => ?_
 · exact ((((SZ.out.alloc' 3 [.int .i64 0,.int .i64 1,.int .i64 2,.int .i64 3] rfl (g := w.heap.size + 2) (by omega)).own 0 rfl encI 1 [0,1,2,3] rfl (fun _ => rfl) (by decide)).alloc' 34 [_,_,_,_] rfl (g := w.heap.size + 2 + 1) (by simp; omega)).nilOwn Ed.cells 3 76).nilOwn encI 1 3
 have S1 := Lib.hid S
 clear S SZ q0 z1 z0 k0
 have KX : Hid (∀ j,j < 24 → ∃ x,d.g.getD j 0 = x ∧ cs[2 + j]? = some (.int .u8 x) ∧ 0 ≤ x ∧ x < 256) := fun j hj => by
  have h24 := HD.out.l
  refine ⟨d.g.getD j 0,rfl,?_,HD.out.rg _ ?_⟩
  · rw [← hcs,Nat.add_comm]
    simp only [Sm4.cells,List.getElem?_cons_succ,List.getElem?_map,List.getD_eq_getElem?_getD]
    rw [List.getElem?_eq_getElem (by omega)]; rfl
  · rw [List.getD_eq_getElem?_getD,List.getElem?_eq_getElem (by omega)]
    exact List.getElem_mem _
 have m0 := HD.out.m0
 have m1 := HD.out.m1
 clear hcs hNs s0 s1
 go_wp2_with fail
 go_loopw [4] (fun v wr => ∃ (i : Nat) (v2 v3 : Value),v = .int .i64 (i : Int) ∧ i ≤ N ∧ Hid (Sep w.heap.size w [eInts (d.ms i) v2,eEds (d.eds N i) v3,eBlk (w.heap.size + 2 + 1) 34 [.slice (some ⟨w.heap.size + 2,0,none⟩) 4 4,.int .i64 (N : Int),v2,v3],eInts [0,1,2,3] (.slice (some ⟨w.heap.size + 2,0,none⟩) 4 4),eBlk (w.heap.size + 1) 34 [.slice none 0 0,.int .i64 0,.slice none 0 0,.slice none 0 0],eBlk w.heap.size 25 cs] wr)) (fun v _ => N - (intOf v).toNat)
 case atStart => exact ⟨0,_,_,rfl,Nat.zero_le _,S1.out⟩
 case round =>
  clear S1
  obtain ⟨i,v2,v3,rfl,hi,S⟩ := hrel
  have sN := qkC S.out 2 rfl 1 rfl
  by_cases hlt : i < N
  · have q1 := (BlkAt.cell (S.out.get 5 rfl) 1).trans k1
    obtain ⟨bt,hbt⟩ : ∃ b,bit4 d.m i = b := ⟨_,rfl⟩
    have hbt' : (bits BinOp.and IntKind.u8 (d.m / 2 ^ i) 1 == 1) = bt := hbt
    have HBT := Lib.hid hbt
    clear hbt
    have hml := mkV_len (bit4 d.m) i
    go_upto_if 25 with fail
    go_cut [] (fun wx => ∃ v2' : Value,Hid (Sep w.heap.size w [eInts (d.ms (i + 1)) v2',eEds (d.eds N i) v3,eBlk (w.heap.size + 2 + 1) 34 [.slice (some ⟨w.heap.size + 2,0,none⟩) 4 4,.int .i64 (N : Int),v2',v3],eInts [0,1,2,3] (.slice (some ⟨w.heap.size + 2,0,none⟩) 4 4),eBlk (w.heap.size + 1) 34 [.slice none 0 0,.int .i64 0,.slice none 0 0,.slice none 0 0],eBlk w.heap.size 25 cs] wx))
    case first =>
     cases bt
     · go_wp2_with fail
       go_meet
       exact ⟨v2,by rw [Sm4.ms,mkV_no HBT.out]; exact S.out⟩
     · obtain ⟨M2,m2,rfl⟩ := S.out.form 0 rfl
       have b2 := qkC S.out 2 rfl 2 rfl
       go_wp2_with (at_builtin; refine wpList_pushS rfl _ _ 31 rfl (S.out.alloc 3 [.int .i64 (i : Int)]) 1 rfl Tryz.underlying31 _ 8 intInfo rfl (by decide) rfl (i : Int) _ rfl rfl (one_cell _ _ [_] _ rfl) (encI_one _) (by simp only [Sm4.ms]; omega) (by decide) ?_)
       intro A5 c5 w6 S9 _
       have S10 := Lib.hid S9.drop1
       clear S9 b2
       have b2 := qkC S10.out 2 rfl 2 rfl
       have f2 := BlkAt.free (S10.out.get 2 rfl) 2
       go_wp2_with fail
       go_meet
       exact ⟨_,by rw [Sm4.ms,mkV_yes HBT.out]; exact S10.out.set 2 rfl 2 _⟩
    case rest =>
     obtain ⟨v2',SC⟩ := hcut
     clear S hbt' q1 sN HBT hml
     go_wp2_with fail
     go_loopw [5] (fun v wr => ∃ (k : Nat) (v3' : Value),v = .int .i64 (k : Int) ∧ k ≤ 4 ∧ Hid (Sep w.heap.size w [eInts (d.ms (i + 1)) v2',eEds (d.eds N i ++ d.row N i k) v3',eBlk (w.heap.size + 2 + 1) 34 [.slice (some ⟨w.heap.size + 2,0,none⟩) 4 4,.int .i64 (N : Int),v2',v3'],eInts [0,1,2,3] (.slice (some ⟨w.heap.size + 2,0,none⟩) 4 4),eBlk (w.heap.size + 1) 34 [.slice none 0 0,.int .i64 0,.slice none 0 0,.slice none 0 0],eBlk w.heap.size 25 cs] wr)) (fun v _ => 4 - (intOf v).toNat)
     case atStart => exact ⟨0,v3,rfl,by omega,by
      rw [show d.row N i 0 = [] from rfl,List.append_nil]; exact SC.out⟩
     case round =>
      clear SC
      obtain ⟨k,v3',rfl,hk,S3⟩ := hrel
      by_cases hk4 : k < 4
      · obtain ⟨x,hx,hc,hx0,hx1⟩ := KX.out (i * 4 + k) (by omega)
        have hcx := (BlkAt.cell (S3.out.get 5 rfl) (2 + i * 4 + k)).trans (show cs[2 + i * 4 + k]? = some (Value.int .u8 x) by rw [Nat.add_assoc]; exact hc)
        have sN := qkC S3.out 2 rfl 1 rfl
        have HT : Hid (d.t i k = x % 7 - 1) := by unfold Sm4.t; rw [hx]; rfl
        have iI : (i : Int) < 6 := by omega
        have kI : (k : Int) < 4 := by omega
        have hel : (d.eds N i ++ d.row N i k).length ≤ 24 := by
         have := d.eds_len N i; have := d.row_len N i k
         rw [List.length_append]; omega
        clear hx hc
        obtain ⟨es,hes⟩ : ∃ es,d.eds N i ++ d.row N i k = es := ⟨_,rfl⟩
        rw [hes] at S3 hel
        have HES := Lib.hid hes
        clear hes
        obtain ⟨t,ht⟩ : ∃ t,x % 7 - 1 = t := ⟨_,rfl⟩
        rw [ht] at HT
        have hw : IntKind.i64.wrap (x % 7 - 1) = t := by rw [← ht]; exact IntWalk.i64_in _ (by omega)
        clear ht
        by_cases h0 : 0 ≤ t
        · by_cases h1 : t < (N : Int)
          · obtain ⟨M3,m3,rfl⟩ := S3.out.form 1 rfl
            have b3 := qkC S3.out 2 rfl 3 rfl
            go_wp2_with (at_builtin; refine wpList_pushS rfl _ _ 32 rfl (S3.out.alloc 76 [.int .i64 (i : Int),.int .i64 (k : Int),.int .i64 t]) 2 rfl Tryz.underlying32 _ 24 edInfo rfl (by decide) rfl (⟨(i : Int),(k : Int),t⟩ : Ed) _ rfl rfl (one_cell _ _ [_,_,_] _ rfl) (edOne _) (by omega) (by decide) ?_)
            intro A5 c5 w6 S9 _
            have S10 := Lib.hid S9.drop1
            clear S9 b3
            have b3 := qkC S10.out 2 rfl 3 rfl
            have f3 := BlkAt.free (S10.out.get 2 rfl) 3
            go_wp2_with fail
            go_roundw
            case rel => exact ⟨k + 1,_,by go_num,by omega,by rw [Sm4.row_yes (by unfold Sm4.has; rw [HT.out]; simp [h0,h1]),HT.out,← List.append_assoc,HES.out]; exact S10.out.set 2 rfl 3 _⟩
            case measure => simp [intOf]; omega
          · go_wp2_with fail
            go_roundw
            case rel => exact ⟨k + 1,v3',by go_num,by omega,by rw [Sm4.row_no (by unfold Sm4.has; rw [HT.out]; simp [h1]),HES.out]; exact S3.out⟩
            case measure => simp [intOf]; omega
        · go_wp2_with fail
          go_roundw
          case rel => exact ⟨k + 1,v3',by go_num,by omega,by rw [Sm4.row_no (by unfold Sm4.has; rw [HT.out]; simp [h0]),HES.out]; exact S3.out⟩
          case measure => simp [intOf]; omega
      · obtain rfl : k = 4 := by omega
        go_wp2_with fail
        go_roundw
        case rel => exact ⟨i + 1,v2',v3',by go_num,by omega,by rw [Sm4.eds_next]; exact S3.out⟩
        case measure => simp [intOf]; omega
  · obtain rfl : i = N := by omega
    obtain ⟨M2,m2,rfl⟩ := S.out.form 0 rfl
    obtain ⟨M3,m3,rfl⟩ := S.out.form 1 rfl
    have EA : Hid (d.au = ⟨[0,1,2,3],(i : Int),d.ms i,d.eds i i⟩) := by unfold Sm4.au; rw [← HN.out]; exact rfl
    clear sN
    have sN0 := qkC S.out 2 rfl 0 rfl
    have sN1 := qkC S.out 2 rfl 1 rfl
    have sN2 := qkC S.out 2 rfl 2 rfl
    have sN3 := qkC S.out 2 rfl 3 rfl
    have c0 := qkC S.out 4 rfl 0 rfl
    have c1 := qkC S.out 4 rfl 1 rfl
    have c2 := qkC S.out 4 rfl 2 rfl
    have c3 := qkC S.out 4 rfl 3 rfl
    have f0 := BlkAt.free (S.out.get 4 rfl) 0
    have f1 := BlkAt.free (S.out.get 4 rfl) 1
    have f2 := BlkAt.free (S.out.get 4 rfl) 2
    have f3 := BlkAt.free (S.out.get 4 rfl) 3
    have S4 := Lib.hid ((((S.out.set 4 rfl 0 (.slice (some ⟨w.heap.size + 2,0,none⟩) 4 4)).set 4 rfl 1 (.int .i64 (i : Int))).set 4 rfl 2 (.slice M2 (d.ms i).length m2)).set 4 rfl 3 (.slice M3 (d.eds i i).length m3))
    have t0 := BlkAt.cell (S4.out.get 4 rfl) 0
    have t1 := BlkAt.cell (S4.out.get 4 rfl) 1
    have t2 := BlkAt.cell (S4.out.get 4 rfl) 2
    have t3 := BlkAt.cell (S4.out.get 4 rfl) 3
    simp only [List.set_cons_succ,List.set_cons_zero,List.getElem?_cons_succ,List.getElem?_cons_zero] at t0 t1 t2 t3
    clear S
    go_wp2_with fail
    refine bodyPost_ret (v := .agg #[.slice (some ⟨w.heap.size + 2,0,none⟩) 4 4,.int .i64 (i : Int),.slice M2 (d.ms i).length m2,.slice M3 (d.eds i i).length m3]) (by simp [results,Tryz.results27,go_sem, *]) rfl ?_
    refine ⟨⟨some ⟨w.heap.size + 2,0,none⟩,4,M2,m2,M3,m3⟩,?_,?_⟩
    · rw [EA.out]; rfl
    · rw [EA.out]; exact S4.out.pick [3,0,1] (by decide)
end
def edLt4 (x y : Ed) : Prop := x.src < y.src ∨ x.src = y.src ∧ x.ev < y.ev
theorem Sm4.mem_row {d : Sm4} {N i k : Nat} {x : Ed} : x ∈ d.row N i k ↔ ∃ j,j < k ∧ d.has N i j = true ∧ x = ⟨(i : Int),(j : Int),d.t i j⟩ := by
 unfold Sm4.row
 simp only [List.mem_map,List.mem_filter,List.mem_range]
 constructor
 · rintro ⟨j,⟨h1,h2⟩,rfl⟩; exact ⟨j,h1,h2,rfl⟩
 · rintro ⟨j,h1,h2,rfl⟩; exact ⟨j,⟨h1,h2⟩,rfl⟩
theorem Sm4.mem_eds {d : Sm4} {N k : Nat} {x : Ed} : x ∈ d.eds N k ↔ ∃ i j,i < k ∧ j < 4 ∧ d.has N i j = true ∧ x = ⟨(i : Int),(j : Int),d.t i j⟩ := by
 unfold Sm4.eds
 simp only [List.mem_flatMap,List.mem_range,Sm4.mem_row]
 constructor
 · rintro ⟨i,hi,j,hj,h,rfl⟩; exact ⟨i,j,hi,hj,h,rfl⟩
 · rintro ⟨i,j,hi,hj,h,rfl⟩; exact ⟨i,hi,j,hj,h,rfl⟩
theorem Sm4.row_rises (d : Sm4) (N i k : Nat) : (d.row N i k).Pairwise edLt4 := by
 unfold Sm4.row
 rw [List.pairwise_map]
 exact (List.Pairwise.filter _ List.pairwise_lt_range).imp fun h => .inr ⟨rfl,by simp only; omega⟩
theorem Sm4.eds_rises (d : Sm4) (N : Nat) : ∀ k,(d.eds N k).Pairwise edLt4
 | 0 => by simp [Sm4.eds]
 | k + 1 => by
   rw [Sm4.eds_next,List.pairwise_append]
   refine ⟨d.eds_rises N k,d.row_rises N k 4,fun x hx y hy => ?_⟩
   obtain ⟨i,j,hi,_,_,rfl⟩ := Sm4.mem_eds.1 hx
   obtain ⟨j',_,_,rfl⟩ := Sm4.mem_row.1 hy
   exact .inl (by show (i : Int) < (k : Int); omega)
theorem mkV_ok (X : Nat → Bool) (k : Nat) : setOk (mkV X k) k (mkV X k).length := by
 refine setOk_dec (fun x hx => ?_) ?_
 · unfold mkV at hx
   simp only [List.mem_map,List.mem_filter,List.mem_range] at hx
   obtain ⟨s,⟨h1,_⟩,rfl⟩ := hx
   omega
 · unfold mkV
   rw [List.pairwise_map]
   exact (List.Pairwise.filter _ List.pairwise_lt_range).imp fun h => by omega
theorem Sm4.n_rg {d : Sm4} (h : d.Ok) : 1 ≤ d.n ∧ d.n ≤ 6 := by
 have := h.s0
 unfold Sm4.n
 omega
theorem Sm4.right {d : Sm4} (h : d.Ok) : d.au.Right := by
 have hn := Sm4.n_rg h
 unfold Sm4.au
 refine ⟨(setOk_dec (l := [0,1,2,3]) (n := 32) (by decide) (by decide) : setOk [0,1,2,3] 32 4),Int.natCast_nonneg _,by show ((d.n : Nat) : Int) ≤ 4096; omega,mkV_ok _ _,fun p hp x hx => ?_⟩
 obtain ⟨i,j,hi,hj,hh,rfl⟩ := Sm4.mem_eds.1 (List.mem_of_getElem? hx)
 unfold Sm4.has at hh
 simp only [Bool.and_eq_true,decide_eq_true_eq] at hh
 refine ⟨Int.natCast_nonneg _,by show (i : Int) < (d.n : Int); omega,hh.1,hh.2,?_,fun y hy hyx => ?_⟩
 · show (j : Int) ∈ [(0 : Int),1,2,3]
   simp only [List.mem_cons,List.not_mem_nil,or_false]
   omega
 · have hpw := List.pairwise_iff_getElem.1 (d.eds_rises d.n d.n)
   obtain ⟨h1,h2⟩ := List.getElem?_eq_some_iff.1 hyx
   obtain ⟨h3,h4⟩ := List.getElem?_eq_some_iff.1 hx
   have := hpw (p - 1) p h1 h3 (by omega)
   rw [h2,h4] at this
   exact this
theorem Sm4.lens {d : Sm4} (h : d.Ok) : Lens d.au := by
 have hn := Sm4.n_rg h
 have h1 := mkV_len (bit4 d.m) d.n
 have h2 := d.eds_len d.n d.n
 refine ⟨by simp [Sm4.au],?_,?_⟩
 · show (mkV (bit4 d.m) d.n).length ≤ _
   omega
 · show (d.eds d.n d.n).length ≤ _
   omega

section

structure Pw where
 x : Int
 y : Int
 w : List Int
def Pw.pr (p : Pw) : Int × Int := (p.x,p.y)
theorem Bfs.shortW {α : Type} {stp : α → Int → α} {s0 : α} {dead : α → Prop} {evs : List Int} {i k : Nat} {vs : List α} {ws : List (List Int)} (h : Bfs stp s0 dead evs i k vs ws) : ∀ (j : Nat) (w : List Int),ws[j]? = some w → w.length ≤ j := by
 intro j
 induction j using Nat.strongRecOn with
 | ind j ih =>
   intro w hw
   by_cases h0 : j = 0
   · subst h0; rw [h.zw] at hw; cases hw; simp
   · obtain ⟨b,u,e,_,hb,hu,rfl⟩ := h.pre j w (by omega) hw
     have := ih b hb u hu
     simp; omega
structure LInv (a b : Au) (s0 : Int × Int) (i k t : Nat) (l : List Pw) : Prop where
 bfs : Bfs (stp2 a b) s0 dead2 ev32 i k (l.map Pw.pr) (l.map Pw.w)
 nd : (l.map Pw.pr).Nodup
 rg : ∀ v,v ∈ l → -1 ≤ v.x ∧ v.x < a.n ∧ -1 ≤ v.y ∧ v.y < b.n
 al : ∀ v,v ∈ l → v.pr ≠ (-1,-1)
 no : ∀ (j : Nat) v,j < t → (l.map Pw.pr)[j]? = some v → pdV a b v = false
section
variable {a b : Au} {s0 : Int × Int} {i k t : Nat} {l : List Pw}
theorem LInv.start (x y : Int) (hx : -1 ≤ x ∧ x < a.n) (hy : -1 ≤ y ∧ y < b.n) (hd : (x,y) ≠ (-1,-1)) : LInv a b (x,y) 0 0 0 [⟨x,y,[]⟩] :=
 ⟨Bfs.start,by simp,fun v hv => by
  simp at hv; subst hv
  simp only; omega,fun v hv => by
  simp at hv; subst hv; exact hd,fun j v h => absurd h (by omega)⟩
theorem LInv.len (h : LInv a b s0 i k t l) (ha : a.Right) (hb : b.Right) : l.length ≤ (a.n.toNat + 2) * (b.n.toNat + 2) := by
 have h1 := nodup_lenN ((a.n.toNat + 2) * (b.n.toNat + 2)) ((l.map Pw.pr).map fun q => (q.1 + 1).toNat * (b.n.toNat + 2) + (q.2 + 1).toNat) ?_ ?_
 · simpa using h1
 · rw [List.nodup_iff_pairwise_ne,List.pairwise_map]
   refine List.Pairwise.imp_of_mem ?_ (List.nodup_iff_pairwise_ne.1 h.nd)
   intro p q hp hq hne hc
   obtain ⟨v,hv,rfl⟩ := List.mem_map.1 hp
   obtain ⟨u,hu,rfl⟩ := List.mem_map.1 hq
   have r1 := h.rg v hv
   have r2 := h.rg u hu
   have n1 := hb.n0
   simp only [Pw.pr] at hc hne
   have e2 : (v.y + 1).toNat < b.n.toNat + 2 := by omega
   have e3 : (u.y + 1).toNat < b.n.toNat + 2 := by omega
   have e4 : (v.x + 1).toNat = (u.x + 1).toNat := by
    have m1 := Nat.div_eq_of_lt e2
    have m2 := Nat.div_eq_of_lt e3
    have := congrArg (· / (b.n.toNat + 2)) hc
    rw [Nat.mul_comm,Nat.mul_add_div (by omega),m1,Nat.mul_comm,Nat.mul_add_div (by omega),m2] at this
    omega
   rw [e4] at hc
   exact hne (by rw [Prod.mk.injEq]; omega)
 · intro x hx
   obtain ⟨q,hq,rfl⟩ := List.mem_map.1 hx
   obtain ⟨v,hv,rfl⟩ := List.mem_map.1 hq
   have r1 := h.rg v hv
   have n0 := ha.n0
   have n1 := hb.n0
   simp only [Pw.pr]
   have e1 : (v.x + 1).toNat + 1 ≤ a.n.toNat + 2 := by omega
   have e2 : (v.y + 1).toNat < b.n.toNat + 2 := by omega
   have := Nat.mul_le_mul_right (b.n.toNat + 2) e1
   rw [Nat.succ_mul] at this
   omega
theorem LInv.word (h : LInv a b s0 i k t l) {j : Nat} {p : Pw} (hp : l[j]? = some p) : p.w.length ≤ j := h.bfs.shortW j p.w (by rw [List.getElem?_map,hp]; rfl)
theorem LInv.skip (h : LInv a b s0 i k t l) {v : Pw} (hv : l[i]? = some v) (hk : k < 32) (hs : stp2 a b v.pr (k : Int) = (-1,-1) ∨ stp2 a b v.pr (k : Int) ∈ l.map Pw.pr) : LInv a b s0 i (k + 1) t l :=
 ⟨h.bfs.skip ev32_incr (v := v.pr) (by rw [List.getElem?_map,hv]; rfl) (ev32_get hk) (hs.imp id fun g => by
  obtain ⟨j,hj,e⟩ := List.mem_iff_getElem.1 g
  exact ⟨j,by rw [List.getElem?_eq_getElem hj,e]⟩),h.nd,h.rg,h.al,h.no⟩
theorem LInv.push (ha : a.Right) (hb : b.Right) (h : LInv a b s0 i k t l) (ht : t ≤ l.length) {v : Pw} (hv : l[i]? = some v) (hk : k < 32) (h1 : ¬ stp2 a b v.pr (k : Int) = (-1,-1)) (h2 : ¬ stp2 a b v.pr (k : Int) ∈ l.map Pw.pr) :
 LInv a b s0 i (k + 1) t (l ++ [⟨(stp2 a b v.pr (k : Int)).1,(stp2 a b v.pr (k : Int)).2,v.w ++ [(k : Int)]⟩]) := by
 have hv' : (l.map Pw.pr)[i]? = some v.pr := by rw [List.getElem?_map,hv]; rfl
 have hw' : (l.map Pw.w)[i]? = some v.w := by rw [List.getElem?_map,hv]; rfl
 refine ⟨?_,?_,fun u hu => ?_,fun u hu => ?_,fun j u hj hu => ?_⟩
 · rw [List.map_append,List.map_append]
   exact h.bfs.push ev32_incr hv' (ev32_get hk) hw'
 · rw [List.map_append]
   refine List.nodup_append.2 ⟨h.nd,by simp,fun p hp q hq => ?_⟩
   simp at hq
   rintro rfl
   refine h2 ?_
   rw [hq] at hp
   exact hp
 · rcases List.mem_append.1 hu with g | g
   · exact h.rg u g
   · simp at g; subst g
     have := ha.to_cases v.x k
     have := hb.to_cases v.y k
     have := ha.n0
     have := hb.n0
     simp only [stp2,Pw.pr]
     omega
 · rcases List.mem_append.1 hu with g | g
   · exact h.al u g
   · simp at g; subst g
     intro hc
     exact h1 (by rw [← hc]; simp [Pw.pr])
 · rw [List.map_append,List.getElem?_append_left (by simp; omega)] at hu
   exact h.no j u hj hu
theorem LInv.next (h : LInv a b s0 i 32 t l) : LInv a b s0 (i + 1) 0 t l := ⟨Bfs.next (by rw [ev32_len]; exact h.bfs),h.nd,h.rg,h.al,h.no⟩
theorem LInv.test (h : LInv a b s0 i k i l) {v : Pw} (hv : l[i]? = some v) (hp : pdV a b v.pr = false) : LInv a b s0 i k (i + 1) l :=
 ⟨h.bfs,h.nd,h.rg,h.al,fun j u hj hu => by
  by_cases e : j = i
  · subst e
    rw [List.getElem?_map,hv] at hu
    cases hu; exact hp
  · exact h.no j u (by omega) hu⟩
theorem LInv.least (ha : a.Right) (hb : b.Right) (h : LInv a b s0 i k i l) {v : Pw} (hv : l[i]? = some v) (hp : pdV a b v.pr = true) : LeastW (LeadsTo (stp2 a b) s0 ev32 (fun q => pdV a b q = true)) v.w :=
 h.bfs.least (dead2_step ha hb) (P := fun q => pdV a b q = true) (fun s hs => by unfold dead2 at hs; subst hs; simp [pdV_dead]) (fun j u hj hu => by rw [h.no j u hj hu]; simp) (show (l.map Pw.pr)[i]? = some v.pr by rw [List.getElem?_map,hv]; rfl) (show (l.map Pw.w)[i]? = some v.w by rw [List.getElem?_map,hv]; rfl) hp
theorem LInv.none_ (ha : a.Right) (hb : b.Right) (h : LInv a b s0 l.length k l.length l) (u : List Int) : ¬ LeadsTo (stp2 a b) s0 ev32 (fun q => pdV a b q = true) u :=
 h.bfs.none_ (dead2_step ha hb) (P := fun q => pdV a b q = true) (fun s hs => by unfold dead2 at hs; subst hs; simp [pdV_dead]) (by simp) (fun j v hv => by
  have hj := (List.getElem?_eq_some_iff.1 hv).1
  rw [h.no j v (by simpa using hj) hv]; simp) u
end
theorem stp2_out {a b : Au} (ha : a.Right) (hb : b.Right) (s : Int × Int) (e : Int) (h : ¬ e ∈ unionS a.al b.al) : stp2 a b s e = (-1,-1) := by
 have f : ∀ c : Au,c.Right → ¬ e ∈ c.al → ∀ t,toV (stepOf c.ed) t e = -1 := fun c hc hn t => by
  rw [← hc.next]
  rcases hc.next_cases t e with g | ⟨_,_,x,hx,_,x2,_⟩
  · exact g
  · obtain ⟨j,hj,hjx⟩ := List.mem_iff_getElem.1 hx
    have := (hc.ed j hj x (by rw [List.getElem?_eq_getElem hj,hjx])).2.2.2.2.1
    rw [x2] at this
    exact absurd this hn
 simp only [stp2]
 rw [f a ha (fun g => h (mem_unionS.2 (.inl g))),f b hb (fun g => h (mem_unionS.2 (.inr g)))]
theorem fold_dead {a b : Au} (ha : a.Right) (hb : b.Right) : ∀ (w : List Int),w.foldl (stp2 a b) (-1,-1) = (-1,-1)
 | [] => rfl
 | e :: w => by
   rw [List.foldl_cons,dead2_step ha hb (-1,-1) e rfl]
   exact fold_dead ha hb w
theorem DistW.uniq {a b : Au} {x y : Int} {f g : Bool} {l m : List Int} (h : DistW a b x y f l) (k : DistW a b x y g m) : f = g ∧ l = m := by
 rcases h with ⟨rfl,h⟩ | ⟨rfl,rfl,h⟩
 · rcases k with ⟨rfl,k⟩ | ⟨rfl,rfl,k⟩
   · exact ⟨rfl,h.uniq k⟩
   · exact absurd h.is (k _)
 · rcases k with ⟨rfl,k⟩ | ⟨rfl,rfl,k⟩
   · exact absurd k.is (h _)
   · exact ⟨rfl,rfl⟩
end
end Go.Proofs.YtimdepdbcdbikaaGreat
