/-
  The reference of layer 3: has, Step, index, Empty.
  Plain laws: the states that are found, and the canonical automaton.
  The states that are found.
  The canonical automaton.
  overseerref09.All and overseerlaw09.Even.
  minimal.edges: the edges of each state.
  minimal.classes: its two keys.
  minimal.classes: the classes of states that nothing tells apart.
  Plain: marks of what is built; how many states there are.
  minimal.merge: the automaton of the classes.
  minimal.union: the events of two alphabets.
-/
import Derived.Test.YtccfcaejlohahaaBas01
import Derived.StillTailTactics
import Derived.Deep.RegionLaw
import Derived.Deep.DeepCutAuto
import Derived.Test.YtccfcaejlohahaaBas03
import Derived.Deep.CutBlock
import Derived.Laws.BytesArg
set_option linter.unusedSimpArgs false
set_option linter.unusedVariables false
namespace Go.Proofs.Ytccfcaejlohahaa
open Go.RowKit
set_option maxRecDepth 100000
theorem rhas_c (A : Option Addr) (c : Nat) (l : List Int) (x : Int) (w : World) (h : IntsAt w A l) (hl : l.length ≤ 140737488355328) :
 Calls Try.prog 80 #[.slice A l.length c,.int .i64 x] w (Says (x ∈ l) w) := by
 go_enter Try.func80,Try.ntmps80
 go_wp2
 go_loop [5] (fun i => ∃ k : Nat,k ≤ l.length ∧ i = .int .i64 k ∧ Hid (∀ j y,j < k → l[j]? = some y → y ≠ x)) (fun i => l.length - (intOf i).toNat)
 case atStart => exact ⟨0,by omega,rfl,fun i x h => absurd h (by omega)⟩
 case round =>
  obtain ⟨k,hk,rfl,H⟩ := hrel
  by_cases hlt : k < l.length
  · obtain ⟨b,off,y,rfl,_,hy,hcy⟩ := IntsAt.at h hlt
    by_cases hyx : y = x
    · have HM := Lib.hid (List.mem_of_getElem? hy)
      have hyx' : (y == x) = true := by simpa using hyx
      have HYX := Lib.hid hyx
      clear hy hyx
      go_wp2
      go_ret
      exact Says.yes (HYX.out ▸ HM.out) rfl
    · have hyx' : (y == x) = false := by simpa using hyx
      have HYX := Lib.hid hyx
      have HY := Lib.hid hy
      clear hyx hy
      go_wp2
      go_round
      case rel => exact ⟨k + 1,by omega,by go_num,fun j z hj hz => by
       by_cases e : j = k
       · subst e; rw [HY.out] at hz; cases hz; exact HYX.out
       · exact H.out j z (by omega) hz⟩
      case measure => simp [intOf]; omega
  · obtain rfl : k = l.length := by omega
    go_wp2
    go_ret
    exact Says.no (notIn_all H.out) rfl
set_option maxHeartbeats 400000 in
theorem rstep_c (a : Au) (p : AuP) (s ev : Int) (w : World) (h3 : EdsAt w p.A3 a.ed) (l3 : a.ed.length ≤ 140737488355328) :
 Calls Try.prog 81 #[a.val p,.int .i64 s,.int .i64 ev] w (Ret (.int .i64 (nextV a.ed s ev)) w) := by
 obtain ⟨al,n,mr,ed⟩ := a
 obtain ⟨A1,c1,A2,c2,A3,c3⟩ := p
 try dsimp only [Au.val] at *
 have B0 := Lib.hid (Below.new w (.cells #[.slice A1 al.length c1,.int .i64 n,.slice A2 mr.length c2,.slice A3 ed.length c3] 39))
 have HE := Lib.hid (h3.below EdE.stays B0.out)
 have q3 : (w.alloc (.cells #[.slice A1 al.length c1,.int .i64 n,.slice A2 mr.length c2,.slice A3 ed.length c3] 39)).cell? ⟨w.heap.size,3,none⟩ = some (.slice A3 ed.length c3) := new_cell w _ [_,_,_,_] _ 3 rfl
 clear h3
 go_enter Try.func81,Try.ntmps81
 go_wp2_with fail
 generalize hW : w.alloc (.cells #[.slice A1 al.length c1,.int .i64 n,.slice A2 mr.length c2,.slice A3 ed.length c3] 39) = W at *
 clear hW
 go_loop [7] (fun i => ∃ k : Nat,k ≤ ed.length ∧ i = .int .i64 k ∧ Hid (∀ j y,j < k → ed[j]? = some y → ¬ (y.src = s ∧ y.ev = ev))) (fun i => ed.length - (intOf i).toNat)
 case atStart => exact ⟨0,by omega,rfl,fun i x h => absurd h (by omega)⟩
 case round =>
  obtain ⟨k,hk,rfl,H⟩ := hrel
  by_cases hlt : k < ed.length
  · obtain ⟨b,off,x,rfl,_,hx,hc0,hc1,hc2⟩ := EdsAt.at HE.out hlt
    obtain ⟨src,e',dst⟩ := x
    dsimp only at hc0 hc1 hc2
    have HX := Lib.hid hx
    clear hx
    by_cases h1 : src = s
    · have h1' : (src == s) = true := by simpa using h1
      have H1 := Lib.hid h1
      clear h1
      by_cases h2 : e' = ev
      · have h2' : (e' == ev) = true := by simpa using h2
        have H2 := Lib.hid h2
        clear h2
        go_wp2
        go_ret
        exact ⟨ret_int (nextV_hit H.out HX.out H1.out H2.out).symm,B0.out⟩
      · have h2' : (e' == ev) = false := by simpa using h2
        have H2 := Lib.hid h2
        clear h2
        go_wp2
        go_round
        case rel => exact ⟨k + 1,by omega,by go_num,fun j z hj hz => by
         by_cases e : j = k
         · subst e; rw [HX.out] at hz; cases hz; exact fun h => H2.out h.2
         · exact H.out j z (by omega) hz⟩
        case measure => simp [intOf]; omega
    · have h1' : (src == s) = false := by simpa using h1
      have H1 := Lib.hid h1
      clear h1
      go_wp2
      go_round
      case rel => exact ⟨k + 1,by omega,by go_num,fun j z hj hz => by
       by_cases e : j = k
       · subst e; rw [HX.out] at hz; cases hz; exact fun h => H1.out h.1
       · exact H.out j z (by omega) hz⟩
      case measure => simp [intOf]; omega
  · obtain rfl : k = ed.length := by omega
    go_wp2
    go_ret
    exact ⟨ret_int (nextV_miss H.out).symm,B0.out⟩
theorem index_c (A : Option Addr) (c : Nat) (l : List Int) (x : Int) (w : World) (h : IntsAt w A l) (hl : l.length ≤ 140737488355328) :
 Calls Try.prog 82 #[.slice A l.length c,.int .i64 x] w (fun e w' => e = .returned (.int .i64 (idxV l x)) ∧ w = w') := by
 go_enter Try.func82,Try.ntmps82
 go_wp2
 go_loop [5] (fun i => ∃ k : Nat,k ≤ l.length ∧ i = .int .i64 k ∧ Hid (∀ j y,j < k → l[j]? = some y → y ≠ x)) (fun i => l.length - (intOf i).toNat)
 case atStart => exact ⟨0,by omega,rfl,fun i x h => absurd h (by omega)⟩
 case round =>
  obtain ⟨k,hk,rfl,H⟩ := hrel
  by_cases hlt : k < l.length
  · obtain ⟨b,off,y,rfl,_,hy,hcy⟩ := IntsAt.at h hlt
    have HY := Lib.hid hy
    clear hy
    by_cases hyx : y = x
    · have hyx' : (y == x) = true := by simpa using hyx
      have HYX := Lib.hid hyx
      clear hyx
      go_wp2
      go_ret
      exact ⟨ret_int (idxV_hit H.out (HYX.out ▸ HY.out)).symm,rfl⟩
    · have hyx' : (y == x) = false := by simpa using hyx
      have HYX := Lib.hid hyx
      clear hyx
      go_wp2
      go_round
      case rel => exact ⟨k + 1,by omega,by go_num,fun j z hj hz => by
       by_cases e : j = k
       · subst e; rw [HY.out] at hz; cases hz; exact HYX.out
       · exact H.out j z (by omega) hz⟩
      case measure => simp [intOf]; omega
  · obtain rfl : k = l.length := by omega
    go_wp2
    go_ret
    exact ⟨ret_int (idxV_miss H.out).symm,rfl⟩
set_option maxRecDepth 100000 in
set_option maxHeartbeats 400000 in
theorem Empty_c (A : Option Addr) (c : Nat) (l : List Int) (w : World) (h : IntsAt w A l) (hl : l.length ≤ 1048576) (hn : A = none → l = [] ∧ c = 0) :
 Calls Try.prog 47 #[.slice A l.length c] w (GivesEm l w) := by
 have O0 : Hid (World.ownsRow ((w.alloc (.cells #[.slice none 0 0,.int .i64 0,.slice none 0 0,.slice none 0 0] 39)).alloc (.cells #[] 3)) (w.heap.size + 1) 3 1 (.slice (some ⟨w.heap.size + 1,0,none⟩) 0 0) 0 []) := ⟨rfl,.inr ⟨w.heap.size + 1,0,#[],rfl,by omega,by have := heap_alloc_new (w.alloc (.cells #[.slice none 0 0,.int .i64 0,.slice none 0 0,.slice none 0 0] 39)) (.cells #[] 3); simpa using this,Nat.le_refl _,by simp,rfl,rfl⟩⟩
 have B0 : Hid (Fro w.heap.size w ((w.alloc (.cells #[.slice none 0 0,.int .i64 0,.slice none 0 0,.slice none 0 0] 39)).alloc (.cells #[] 3))) := ((Fro.here w).alloc _).alloc _
 cases A with
 | none =>
   obtain ⟨rfl,rfl⟩ := hn rfl
   simp only [List.length_nil]
   clear h hn
   go_enter Try.func47,Try.ntmps47
   go_wp2
   refine bodyPost_ret (v := .agg #[.slice (some ⟨w.heap.size + 1,0,none⟩) 0 0,.int .i64 0,.slice none 0 0,.slice none 0 0]) (by simp [results,Try.results47,go_sem]) rfl ?_
   have B1 : Fro w.heap.size w ((w.alloc (.cells #[.slice (some ⟨w.heap.size + 1,0,none⟩) 0 0,.int .i64 0,.slice none 0 0,.slice none 0 0] 39)).alloc (.cells #[] 3)) := ((Fro.here w).alloc _).alloc _
   exact ⟨some ⟨w.heap.size + 1,0,none⟩,0,rfl,⟨rfl,.inr ⟨w.heap.size + 1,0,#[],rfl,by omega,by have := heap_alloc_new (w.alloc (.cells #[.slice (some ⟨w.heap.size + 1,0,none⟩) 0 0,.int .i64 0,.slice none 0 0,.slice none 0 0] 39)) (.cells #[] 3); simpa using this,Nat.le_refl _,by simp,rfl,rfl⟩⟩,B1.b⟩
 | some a =>
   have HA := Lib.hid h
   clear h hn
   obtain ⟨i0,hi0,hz0,hz1,hz2⟩ := info_parts intInfo
   go_enter Try.func47,Try.ntmps47
   go_wp2_with (at_builtin; refine wpList_append_own_at _ rfl _ _ 36 rfl (w.heap.size + 1) 3 i0 (.int .i64 0) 1 8 Try.underlying36 hi0 hz0 hz1 hz2 rfl (by decide) _ _ _ rfl O0.out a l.length c (l.map (Value.int .i64)) rfl (by simp) (IntsAt.cells (HA.out.below IntE.stays B0.out.b)) (by simp [Value.oneCell']) (by simp only [maxLen]; simp; omega) (by simp; omega) (by simp) ?_)
   intro v1 w1 ho1 hg1 hnn hv1
   clear hnn
   obtain ⟨A1,c1,rfl⟩ := own_form ho1
   have hg : ((w.alloc (.cells #[.slice none 0 0,.int .i64 0,.slice none 0 0,.slice none 0 0] 39)).alloc (.cells #[] 3)).grownBy w1 (some (w.heap.size + 1)) := hg1
   have HO : Hid (OwnI (w.heap.size + 1) l (.slice A1 l.length c1) w1) := by unfold Hid OwnI Own; rw [flat_encI]; exact ho1
   have BR : BlkAt w1 w.heap.size 39 [.slice none 0 0,.int .i64 0,.slice none 0 0,.slice none 0 0] := ((BlkAt.new w _ _).alloc _).grown hg (by simp)
   have HB := Lib.hid BR
   have c0 : w1.cell? ⟨w.heap.size,0,none⟩ = some (.slice none 0 0) := BR.cell 0
   have c1' : w1.cell? ⟨w.heap.size,1,none⟩ = some (.int .i64 0) := BR.cell 1
   have c2 : w1.cell? ⟨w.heap.size,2,none⟩ = some (.slice none 0 0) := BR.cell 2
   have c3 : w1.cell? ⟨w.heap.size,3,none⟩ = some (.slice none 0 0) := BR.cell 3
   have f0 := BR.free 0
   have f1 := BR.free 1
   have f2 := BR.free 2
   have f3 := BR.free 3
   have BF := Lib.hid (B0.out.grown hg (fun j hj => by cases hj; omega))
   clear BR hg hg1 hv1 ho1
   go_wp2
   refine bodyPost_ret (v := .agg #[.slice A1 l.length c1,.int .i64 0,.slice none 0 0,.slice none 0 0]) (by simp [results,Try.results47,go_sem, *]) rfl ?_
   have st : ∀ (W : World) (i : Nat) (u : Value),OwnI (w.heap.size + 1) l (.slice A1 l.length c1) W → OwnI (w.heap.size + 1) l (.slice A1 l.length c1) (W.setCell ⟨w.heap.size,i,none⟩ u) := fun W i u h => ownsRow_setCell_below h (Nat.lt_succ_self _) u
   exact ⟨A1,c1,rfl,((st _ _ _ (st _ _ _ (st _ _ _ (st _ _ _ HO.out)))).base (by omega)),((((BF.out.setCell (Nat.le_refl _) _).setCell (Nat.le_refl _) _).setCell (Nat.le_refl _) _).setCell (Nat.le_refl _) _).b⟩
def addV (out : List Int) (t : Int) : List Int := if 0 ≤ t ∧ ¬ t ∈ out then out ++ [t] else out
def scanV (ed : List Ed) (s : Int) (al : List Int) (out : List Int) : List Int := al.foldl (fun out e => addV out (nextV ed s e)) out
theorem scanV_snoc (ed : List Ed) (s : Int) (al : List Int) (e : Int) (out : List Int) : scanV ed s (al ++ [e]) out = addV (scanV ed s al out) (nextV ed s e) := by simp [scanV]
def foundL (au : Au) : Nat → Nat → List Int → List Int
 | 0,_,out => out
 | f + 1,i,out => match out[i]? with
   | some s => foundL au f (i + 1) (scanV au.ed s au.al out)
   | none => out
def foundV (au : Au) : List Int := if 0 < au.n then foundL au (au.n.toNat + 1) 0 [0] else []
structure Sts (n : Int) (l : List Int) : Prop where
 nd : l.Nodup
 rg : ∀ x,x ∈ l → 0 ≤ x ∧ x < n
theorem nodup_len : ∀ (n : Nat) (l : List Int),l.Nodup → (∀ x,x ∈ l → 0 ≤ x ∧ x < (n : Int)) → l.length ≤ n
 | 0,l,_,h => by
   cases l with
   | nil => simp
   | cons a l => have := h a (by simp); omega
 | n + 1,l,hd,h => by
   by_cases hm : (n : Int) ∈ l
   · have h1 := nodup_len n (l.erase (n : Int)) (hd.erase _) (fun x hx => by
      have h2 := (hd.mem_erase_iff).1 hx
      have := h x h2.2
      have := h2.1
      omega)
     have := List.length_erase_of_mem hm
     omega
   · have := nodup_len n l hd (fun x hx => by
      have := h x hx
      by_cases e : x = n
      · subst e; exact absurd hx hm
      · omega)
     omega
theorem Sts.len {n : Int} {l : List Int} (h : Sts n l) (hn : 0 ≤ n) : l.length ≤ n.toNat := nodup_len n.toNat l h.nd fun x hx => by have := h.rg x hx; omega
theorem Sts.add {n : Int} {l : List Int} (h : Sts n l) {t : Int} (ht : t < n) : Sts n (addV l t) := by
 unfold addV
 split
 · rename_i h1
   refine ⟨?_,fun x hx => ?_⟩
   · rw [List.nodup_append]
     refine ⟨h.nd,by simp,fun a ha b hb => ?_⟩
     simp at hb; subst hb
     intro e; subst e; exact h1.2 ha
   · simp only [List.mem_append,List.mem_singleton] at hx
     rcases hx with hx | rfl
     · exact h.rg x hx
     · exact ⟨h1.1,ht⟩
 · exact h
def Leads (au : Au) : Prop := ∀ x,x ∈ au.ed → 0 ≤ x.dst ∧ x.dst < au.n
theorem nextV_mem {l : List Ed} {s e : Int} : nextV l s e = -1 ∨ ∃ x,x ∈ l ∧ x.src = s ∧ x.ev = e ∧ x.dst = nextV l s e := by
 unfold nextV
 cases hf : l.find? (fun x => decide (x.src = s) && decide (x.ev = e)) with
 | none => exact .inl rfl
 | some x =>
   have h2 := List.find?_some hf
   simp at h2
   exact .inr ⟨x,List.mem_of_find?_eq_some hf,h2.1,h2.2,rfl⟩
theorem Leads.next {au : Au} (h : Leads au) (s e : Int) (hn : 0 ≤ au.n) : nextV au.ed s e < au.n ∧ -1 ≤ nextV au.ed s e := by
 rcases nextV_mem (l := au.ed) (s := s) (e := e) with h1 | ⟨x,hx,_,_,h1⟩
 · omega
 · have := h x hx; omega
theorem Sts.scan {au : Au} (hl : Leads au) (hn : 0 ≤ au.n) (s : Int) : ∀ (al : List Int) {l : List Int},Sts au.n l → Sts au.n (scanV au.ed s al l)
 | [],_,h => h
 | e :: r,_,h => Sts.scan hl hn s r (h.add (hl.next s e hn).1)
theorem addV_pre (l : List Int) (t : Int) : l <+: addV l t := by
 unfold addV; split
 · exact List.prefix_append ..
 · exact List.prefix_refl _
theorem scanV_pre (ed : List Ed) (s : Int) : ∀ (al l : List Int),l <+: scanV ed s al l
 | [],l => List.prefix_refl l
 | e :: r,l => (addV_pre l (nextV ed s e)).trans (scanV_pre ed s r (addV l (nextV ed s e)))
theorem scanV_has (ed : List Ed) (s : Int) : ∀ (al l : List Int) (e : Int),e ∈ al → 0 ≤ nextV ed s e → nextV ed s e ∈ scanV ed s al l
 | a :: r,l,e,he,h0 => by
   rcases List.mem_cons.1 he with rfl | he
   · refine (scanV_pre ed s r (addV l (nextV ed s e))).subset ?_
     unfold addV; split
     · simp
     · rename_i h; exact Classical.not_not.1 (fun hm => h ⟨h0,hm⟩)
   · exact scanV_has ed s r _ e he h0
def Closed (au : Au) (i : Nat) (l : List Int) : Prop := ∀ j s e,j < i → l[j]? = some s → e ∈ au.al → 0 ≤ nextV au.ed s e → nextV au.ed s e ∈ l
theorem Closed.round {au : Au} {i : Nat} {l : List Int} {s : Int} (h : Closed au i l) (hs : l[i]? = some s) : Closed au (i + 1) (scanV au.ed s au.al l) := by
 intro j x e hj hx he h0
 have hp := scanV_pre au.ed s au.al l
 have hi := (List.getElem?_eq_some_iff.1 hs).1
 have hjl : l[j]? = some x := by
  have hjl : j < l.length := by omega
  have h1 := List.IsPrefix.getElem hp hjl
  rw [List.getElem?_eq_getElem (Nat.lt_of_lt_of_le hjl hp.length_le)] at hx
  rw [List.getElem?_eq_getElem hjl,h1]; exact hx
 by_cases e1 : j = i
 · subst e1; rw [hs] at hjl; cases hjl; exact scanV_has au.ed s au.al l e he h0
 · exact hp.subset (h j x e (by omega) hjl he h0)
theorem foundL_stop (au : Au) (f i : Nat) (out : List Int) (h : out.length ≤ i) : foundL au f i out = out := by
 cases f with
 | zero => rfl
 | succ f => simp [foundL,List.getElem?_eq_none h]
theorem foundL_closed {au : Au} (hl : Leads au) (hn : 0 ≤ au.n) : ∀ (f i : Nat) (out : List Int),Sts au.n out → Closed au i out → i ≤ out.length → au.n.toNat < f + i →
 Sts au.n (foundL au f i out) ∧ Closed au (foundL au f i out).length (foundL au f i out) ∧ out <+: foundL au f i out
 | 0,i,out,h1,h2,h3,h4 => by have := h1.len hn; omega
 | f + 1,i,out,h1,h2,h3,h4 => by
   unfold foundL
   cases hs : out[i]? with
   | none => have : out.length ≤ i := List.getElem?_eq_none_iff.1 hs
             obtain rfl : i = out.length := by omega
             exact ⟨h1,h2,List.prefix_refl _⟩
   | some s =>
     have hp := scanV_pre au.ed s au.al out
     have hi := (List.getElem?_eq_some_iff.1 hs).1
     obtain ⟨a,b,c⟩ := foundL_closed hl hn f (i + 1) (scanV au.ed s au.al out) (Sts.scan hl hn s au.al h1) (h2.round hs) (by have := hp.length_le; omega) (by omega)
     exact ⟨a,b,hp.trans c⟩
structure FoundOk (au : Au) (l : List Int) : Prop where
 st : Sts au.n l
 cl : Closed au l.length l
 z : 0 < au.n → l[0]? = some 0
 e : au.n ≤ 0 → l = []
theorem foundV_ok {au : Au} (hl : Leads au) (hn : 0 ≤ au.n) : FoundOk au (foundV au) := by
 unfold foundV
 split
 · rename_i h
   obtain ⟨a,b,c⟩ := foundL_closed hl hn (au.n.toNat + 1) 0 [0] ⟨by simp,fun x hx => by simp at hx; omega⟩ (fun j s e hj => absurd hj (by omega)) (by simp) (by omega)
   refine ⟨a,b,fun _ => ?_,fun h => by omega⟩
   have h1 := List.IsPrefix.getElem c (i := 0) (by simp)
   rw [List.getElem?_eq_getElem (Nat.lt_of_lt_of_le (by simp) c.length_le),← h1]; rfl
 · rename_i h
   exact ⟨⟨by simp,by simp⟩,fun j s e hj => absurd hj (by simp),fun h2 => absurd h2 h,fun _ => rfl⟩

def rowV (ed : List Ed) (fd : List Int) (i : Nat) (al : List Int) : List Ed := al.filterMap fun e => if 0 ≤ nextV ed (fd.getD i 0) e then some ⟨(i : Int),e,idxV fd (nextV ed (fd.getD i 0) e)⟩ else none
def rowsV (ed : List Ed) (fd : List Int) (al : List Int) (k : Nat) : List Ed := (List.range k).flatMap fun i => rowV ed fd i al
def marksV (mr fd : List Int) (k : Nat) : List Int := ((List.range k).filter fun i => decide (fd.getD i 0 ∈ mr)).map fun (i : Nat) => (i : Int)
def canonV (au : Au) : Au := ⟨au.al,(foundV au).length,marksV au.mr (foundV au) (foundV au).length,rowsV au.ed (foundV au) au.al (foundV au).length⟩
theorem rowV_snoc (ed : List Ed) (fd : List Int) (i : Nat) (al : List Int) (e : Int) : rowV ed fd i (al ++ [e]) = if 0 ≤ nextV ed (fd.getD i 0) e then rowV ed fd i al ++ [⟨(i : Int),e,idxV fd (nextV ed (fd.getD i 0) e)⟩] else rowV ed fd i al := by
 simp only [rowV,List.filterMap_append,List.filterMap_cons,List.filterMap_nil]
 split <;> simp_all
theorem rowV_len (ed : List Ed) (fd : List Int) (i : Nat) (al : List Int) : (rowV ed fd i al).length ≤ al.length := List.length_filterMap_le ..
theorem rowsV_succ (ed : List Ed) (fd : List Int) (al : List Int) (k : Nat) : rowsV ed fd al (k + 1) = rowsV ed fd al k ++ rowV ed fd k al := by
 simp [rowsV,List.range_succ]
theorem rowsV_len (ed : List Ed) (fd : List Int) (al : List Int) : ∀ k,(rowsV ed fd al k).length ≤ k * al.length
 | 0 => by simp [rowsV]
 | k + 1 => by
   rw [rowsV_succ,List.length_append]
   have := rowsV_len ed fd al k
   have := rowV_len ed fd k al
   rw [Nat.add_mul]; omega
theorem marksV_succ (mr fd : List Int) (k : Nat) : marksV mr fd (k + 1) = if fd.getD k 0 ∈ mr then marksV mr fd k ++ [(k : Int)] else marksV mr fd k := by
 simp only [marksV,List.range_succ,List.filter_append,List.map_append]
 split <;> simp_all
theorem marksV_len (mr fd : List Int) (k : Nat) : (marksV mr fd k).length ≤ k := by
 simp only [marksV,List.length_map]
 exact Nat.le_trans (List.length_filter_le ..) (by simp)
theorem mem_marksV {mr fd : List Int} {k : Nat} {x : Int} (h : x ∈ marksV mr fd k) : 0 ≤ x ∧ x < k := by
 simp only [marksV,List.mem_map,List.mem_filter,List.mem_range] at h
 obtain ⟨i,h,rfl⟩ := h
 omega
theorem marksV_incr (mr fd : List Int) : ∀ k,incr (marksV mr fd k)
 | 0 => fun i j x y _ hx _ => by simp [marksV] at hx
 | k + 1 => by
   rw [marksV_succ]
   split
   · exact incr_snoc (marksV_incr mr fd k) fun y hy => (mem_marksV hy).2
   · exact marksV_incr mr fd k
theorem incr.setOk {l : List Int} {n : Int} (h : Go.Proofs.Ytccfcaejlohahaa.incr l) (hr : ∀ x,x ∈ l → 0 ≤ x ∧ x < n) : setOk l n l.length := fun i x hi hx => by
 have := hr x (List.mem_of_getElem? hx)
 exact ⟨this.1,this.2,fun y h0 hy => h (i - 1) i y x (by omega) hy hx⟩
def lexLt (x y : Ed) : Prop := x.src < y.src ∨ x.src = y.src ∧ x.ev < y.ev
theorem incr.pw {l : List Int} (h : Go.Proofs.Ytccfcaejlohahaa.incr l) : l.Pairwise (· < ·) := by
 rw [List.pairwise_iff_getElem]
 intro i j hi hj hij
 exact h i j _ _ hij (List.getElem?_eq_getElem hi) (List.getElem?_eq_getElem hj)
theorem rowV_mem {ed : List Ed} {fd : List Int} {i : Nat} {al : List Int} {x : Ed} (h : x ∈ rowV ed fd i al) : x.src = (i : Int) ∧ x.ev ∈ al ∧ 0 ≤ nextV ed (fd.getD i 0) x.ev ∧ x.dst = idxV fd (nextV ed (fd.getD i 0) x.ev) := by
 simp only [rowV,List.mem_filterMap] at h
 obtain ⟨e,he,h⟩ := h
 split at h
 · rename_i h0; cases h; exact ⟨rfl,he,h0,rfl⟩
 · cases h
theorem rowV_pw {ed : List Ed} {fd : List Int} {i : Nat} : ∀ {al : List Int},al.Pairwise (· < ·) → (rowV ed fd i al).Pairwise lexLt
 | [],_ => by simp [rowV]
 | e :: r,h => by
   rw [List.pairwise_cons] at h
   have ih := rowV_pw (ed := ed) (fd := fd) (i := i) h.2
   unfold rowV at ih ⊢
   rw [List.filterMap_cons]
   split
   · exact ih
   · rename_i y hy
     split at hy
     · cases hy
       rw [List.pairwise_cons]
       refine ⟨fun z hz => ?_,ih⟩
       have := rowV_mem (show z ∈ rowV ed fd i r from hz)
       exact .inr ⟨this.1.symm,h.1 _ this.2.1⟩
     · cases hy
theorem rowsV_mem {ed : List Ed} {fd : List Int} {al : List Int} {k : Nat} {x : Ed} (h : x ∈ rowsV ed fd al k) : ∃ i,i < k ∧ x ∈ rowV ed fd i al := by
 simp only [rowsV,List.mem_flatMap,List.mem_range] at h
 exact h
theorem rowsV_pw {ed : List Ed} {fd : List Int} {al : List Int} (h : al.Pairwise (· < ·)) : ∀ k,(rowsV ed fd al k).Pairwise lexLt
 | 0 => by simp [rowsV]
 | k + 1 => by
   rw [rowsV_succ,List.pairwise_append]
   refine ⟨rowsV_pw h k,rowV_pw h,fun a ha b hb => ?_⟩
   obtain ⟨i,hi,ha⟩ := rowsV_mem ha
   have h1 := (rowV_mem ha).1
   have h2 := (rowV_mem hb).1
   exact .inl (by omega)
theorem pw_prev {l : List Ed} (h : l.Pairwise lexLt) {i : Nat} {x y : Ed} (h0 : 0 < i) (hx : l[i]? = some x) (hy : l[i - 1]? = some y) : y.src < x.src ∨ y.src = x.src ∧ y.ev < x.ev := by
 rw [List.pairwise_iff_getElem] at h
 obtain ⟨hi,rfl⟩ := List.getElem?_eq_some_iff.1 hx
 obtain ⟨hj,rfl⟩ := List.getElem?_eq_some_iff.1 hy
 exact h (i - 1) i hj hi (by omega)
structure Raw (au : Au) : Prop where
 al : setOk au.al 32 au.al.length
 n0 : 0 ≤ au.n
 n1 : au.n ≤ 4096
 ld : Leads au
theorem canonV_right {au : Au} (h : Raw au) : (canonV au).Right := by
 have hf := foundV_ok h.ld h.n0
 have hlen := hf.st.len h.n0
 have hn := h.n0
 have hn1 := h.n1
 refine ⟨h.al,by simp [canonV],by simp only [canonV]; omega,(marksV_incr _ _ _).setOk fun x hx => mem_marksV hx,fun i hi x hx => ?_⟩
 obtain ⟨k,hk,hm⟩ := rowsV_mem (List.mem_of_getElem? hx)
 obtain ⟨h1,h2,h3,h4⟩ := rowV_mem hm
 have hkl : k < (foundV au).length := hk
 have hg : (foundV au)[k]? = some ((foundV au).getD k 0) := by rw [List.getD_eq_getElem?_getD,List.getElem?_eq_getElem hkl]; rfl
 obtain ⟨j,hj,hj2⟩ := idxV_in (hf.cl k _ _ hkl hg h2 h3)
 have hjl := (List.getElem?_eq_some_iff.1 hj2).1
 refine ⟨by omega,by rw [h1]; simp only [canonV]; omega,by rw [h4,hj]; omega,by rw [h4,hj]; simp only [canonV]; omega,h2,fun y h0 hy => pw_prev (rowsV_pw (h.al.incr.pw) _) h0 hx hy⟩
theorem canonV_sizes {au : Au} (h : Raw au) : (canonV au).n ≤ au.n ∧ (canonV au).ed.length ≤ au.n.toNat * au.al.length ∧ (canonV au).mr.length ≤ au.n.toNat := by
 have hf := foundV_ok h.ld h.n0
 have hlen := hf.st.len h.n0
 have hn := h.n0
 have := rowsV_len au.ed (foundV au) au.al (foundV au).length
 have := marksV_len au.mr (foundV au) (foundV au).length
 have := Nat.mul_le_mul_right au.al.length hlen
 simp only [canonV]
 exact ⟨by omega,by omega,by omega⟩
theorem pre_get {α : Type} {l m : List α} (h : l <+: m) {i : Nat} {x : α} (hx : l[i]? = some x) : m[i]? = some x := by
 obtain ⟨hi,rfl⟩ := List.getElem?_eq_some_iff.1 hx
 rw [List.getElem?_eq_getElem (Nat.lt_of_lt_of_le hi h.length_le),← List.IsPrefix.getElem h hi]
theorem foundL_succ (au : Au) {i : Nat} {out : List Int} {s : Int} (hi : i ≤ au.n.toNat) (hs : out[i]? = some s) : foundL au (au.n.toNat + 1 - i) i out = foundL au (au.n.toNat + 1 - (i + 1)) (i + 1) (scanV au.ed s au.al out) := by
 have : au.n.toNat + 1 - i = (au.n.toNat + 1 - (i + 1)) + 1 := by omega
 rw [this,foundL,hs]
theorem IntsAt.found {w : World} {A : Option Addr} {l : List Int} (h : IntsAt w A l) {k : Nat} {x : Int} (hx : l[k]? = some x) : ∃ b off,A = some ⟨b,off,none⟩ ∧ b < w.heap.size ∧ w.cell? ⟨b,off + k,none⟩ = some (.int .i64 x) := by
 obtain ⟨b,off,y,hA,hb,hy,hc⟩ := IntsAt.at h (List.getElem?_eq_some_iff.1 hx).1
 rw [hx] at hy; cases hy
 exact ⟨b,off,hA,hb,hc⟩

set_option maxRecDepth 100000 in
set_option maxHeartbeats 2000000 in
theorem Found_c (au : Au) (p : AuP) (w : World) (hp : Au.At w au p) (hr : Raw au) :
 Calls Try.prog 79 #[au.val p] w (GivesI (foundV au) w) := by
 have HP := Lib.hid hp
 have HR := Lib.hid hr
 have lal := hp.lal
 have n0 := hr.n0
 have n1 := hr.n1
 clear hp hr
 have W0 : Hid (Fro (w.heap.size + 1) (w.alloc (.cells (auCells au p).toArray 39)) (w.alloc (.cells (auCells au p).toArray 39))) := Fro.refl (by simp)
 have B0 : Hid (Below w.heap.size w (w.alloc (.cells (auCells au p).toArray 39))) := Below.new _ _
 have C0 : Hid (HasAt w.heap.size (auCells au p) (w.alloc (.cells (auCells au p).toArray 39))) := HasAt.new w _ _ rfl
 obtain ⟨al,n,mr,ed⟩ := au
 obtain ⟨A1,c1,A2,c2,A3,c3⟩ := p
 dsimp only [Au.val,auCells] at *
 have SB : Hid (∀ V,Fro (w.heap.size + 1) (w.alloc (.cells #[.slice A1 al.length c1,.int .i64 n,.slice A2 mr.length c2,.slice A3 ed.length c3] 39)) V → Below w.heap.size w V) := fun V hb => B0.out.trans (hb.b.mono (by omega))
 by_cases hn : 0 < n
 · go_enter Try.func79,Try.ntmps79
   go_wp2_with (at_builtin; refine wpList_push (B := w.heap.size + 1) rfl _ _ 36 rfl (Own.nil (enc := encI) (k := 1) (T := 3) _) Try.underlying36 _ 8 intInfo rfl (by decide) rfl (0 : Int) (w.heap.size + 1) rfl rfl (one_cell _ _ _ _ (by simp)) (encI_one _) (by simp) (by decide) (W0.out.alloc _).z ?_)
   intro A' c' w1 ho hg _
   have HO := Lib.hid ho
   have BW := Lib.hid ((W0.out.alloc _).push (Own.nil (enc := encI) (k := 1) (T := 3) _) hg)
   clear ho hg
   go_wp2_with fail
   generalize hW : w.alloc (.cells #[.slice A1 al.length c1,.int .i64 n,.slice A2 mr.length c2,.slice A3 ed.length c3] 39) = W at *
   clear hW
   go_loopw [3,4] (fun v j wr => ∃ (i : Nat) (out : List Int),j = .int .i64 i ∧ i ≤ out.length ∧ Hid (OwnI (w.heap.size + 1) out v wr) ∧ Hid (Sts n out) ∧ Hid (foundL ⟨al,n,mr,ed⟩ (n.toNat + 1 - i) i out = foundV ⟨al,n,mr,ed⟩) ∧ Hid (Fro (w.heap.size + 1) W wr)) (fun _ j _ => n.toNat - (intOf j).toNat)
   case atStart => exact ⟨0,[0],rfl,by simp,HO.out,⟨by simp,fun x hx => by simp at hx; omega⟩,by simp [Hid,foundV,hn],BW.out⟩
   case round =>
    obtain ⟨i,out,rfl,hio,HV,HS,HF,BR⟩ := hrel
    obtain ⟨A,c,rfl⟩ := HV.out.form
    have hol := HS.out.len n0
    by_cases hlt : i < out.length
    · have hs := List.getElem?_eq_getElem hlt
      generalize hse : out[i] = s at *
      have HSE := Lib.hid hs
      clear hs hse
      have q0 := (C0.out.fro BR.out (by omega)).c 0 _ rfl
      go_wp2_with fail
      go_loopw [3,5] (fun v j wr => ∃ k : Nat,k ≤ al.length ∧ j = .int .i64 k ∧ Hid (OwnI (w.heap.size + 1) (scanV ed s (al.take k) out) v wr) ∧ Hid (Fro (w.heap.size + 1) W wr)) (fun _ j _ => al.length - (intOf j).toNat)
      case atStart => exact ⟨0,by omega,rfl,HV.out,BR.out⟩
      case round =>
       obtain ⟨k,hk,rfl,HV2,BR2⟩ := hrel
       obtain ⟨A',c',rfl⟩ := HV2.out.form
       clear q0
       have C2 := Lib.hid (C0.out.fro BR2.out (by omega))
       have q0 := C2.out.c 0 _ rfl
       have q1 := C2.out.c 1 _ rfl
       have q2 := C2.out.c 2 _ rfl
       have q3 := C2.out.c 3 _ rfl
       have hz := C2.out.z
       by_cases hkl : k < al.length
       · have HS2 : Hid (Sts n (scanV ed s (al.take k) out)) := Sts.scan HR.out.ld n0 s _ HS.out
         have hol2 := HS2.out.len n0
         have HSO := Lib.hid (pre_get (scanV_pre ed s (al.take k) out) HSE.out)
         generalize hout2 : scanV ed s (al.take k) out = out2 at *
         have HOUT2 := Lib.hid hout2
         clear hout2
         obtain ⟨b,off,rfl,hb,hcs⟩ := IntsAt.found HV2.out.ints HSO.out
         have hil := (List.getElem?_eq_some_iff.1 HSO.out).1
         obtain ⟨b2,off2,e,hA1,hb2,he,hce⟩ := IntsAt.at ((HP.out.below (SB.out wr BR2.out)).al) hkl
         dsimp only at hA1
         subst hA1
         have HT := Lib.hid (show al.take (k + 1) = al.take k ++ [e] by rw [List.take_add_one,he]; rfl)
         have HN := Lib.hid (scanV_snoc ed s (al.take k) e out)
         have HNX := Lib.hid ((HR.out.ld.next s e n0))
         have HM := Lib.hid he
         have BD : Hid (Below w.heap.size w wr.drew) := SB.out _ BR2.out.drew
         clear he
         go_wp2_with fail
         go_still_tail 10,(by kernel_rfl)
         change wpList _ _ _ _ _ wr.drew
         go_wp2_with fail
         refine (rstep_c ⟨al,n,mr,ed⟩ ⟨some ⟨b2,off2,none⟩,c1,A2,c2,A3,c3⟩ s e wr.drew (HP.out.below BD.out).ed HP.out.led).mono ?_
         rintro e1 w3 ⟨rfl,hb3⟩
         have BR3 := Lib.hid (BR2.out.drew.next hb3)
         have HV3 : Hid (OwnI (w.heap.size + 1) out2 (.slice (some ⟨b,off,none⟩) out2.length c') w3) := Own.below (Own.drew HV2.out) hb3 (Nat.le_refl _)
         clear hb3 q0 q1 q2 q3 hcs hce hz
         have q0 := (C0.out.fro BR3.out (by omega)).c 0 _ rfl
         dsimp only at HN ⊢
         generalize ht : nextV ed s e = t at *
         clear ht
         by_cases h0 : 0 ≤ t
         · go_wp2_with fail
           refine (rhas_c (some ⟨b,off,none⟩) c' out2 t w3 HV3.out.ints (by omega)).mono ?_
           intro e1 w4 hs; rcases hs.yes1 with ⟨rfl,S,rfl⟩ | ⟨rfl,S,rfl⟩
           · clear hs
             go_wp2
             go_roundw
             case rel => exact ⟨k + 1,by omega,by go_num,by rw [HT.out,HN.out,HOUT2.out,addV,if_neg (fun h => h.2 S.out)]; exact HV3.out,BR3.out⟩
             case measure => simp [intOf]; omega
           · clear hs
             go_wp2_with (at_builtin; refine wpList_push rfl _ _ 36 rfl (HV3.out.alloc _) Try.underlying36 _ 8 intInfo rfl (by decide) rfl t w3.heap.size rfl rfl (one_cell _ _ _ _ rfl) (encI_one _) (by omega) (by decide) (BR3.out.alloc _).z ?_)
             intro A'' c'' w5 ho hg _
             have HN5 := Lib.hid ho
             have HG := Lib.hid ((BR3.out.alloc _).push (HV3.out.alloc _) hg)
             clear ho hg
             go_wp2
             go_roundw
             case rel => exact ⟨k + 1,by omega,by go_num,by rw [HT.out,HN.out,HOUT2.out,addV,if_pos ⟨h0,S.out⟩]; exact HN5.out,HG.out⟩
             case measure => simp [intOf]; omega
         · go_wp2
           go_roundw
           case rel => exact ⟨k + 1,by omega,by go_num,by rw [HT.out,HN.out,HOUT2.out,addV,if_neg (fun h => h0 h.1)]; exact HV3.out,BR3.out⟩
           case measure => simp [intOf]; omega
       · obtain rfl : k = al.length := by omega
         have HTL := Lib.hid (List.take_length (l := al))
         have HFS := Lib.hid (foundL_succ ⟨al,n,mr,ed⟩ (i := i) (by simp only; omega) HSE.out)
         have HS2 : Hid (Sts n (scanV ed s al out)) := Sts.scan HR.out.ld n0 s _ HS.out
         have hpl := (scanV_pre ed s al out).length_le
         go_wp2
         go_roundw
         case rel => exact ⟨i + 1,scanV ed s al out,by go_num,by omega,by have := HV2.out; simp only [HTL.out] at this ⊢; exact this,HS2.out,by show _ = _; rw [← HF.out]; exact HFS.out.symm,BR2.out⟩
         case measure => simp [intOf]; omega
    · have HF2 := Lib.hid (foundL_stop ⟨al,n,mr,ed⟩ (n.toNat + 1 - i) i out (by omega))
      go_wp2
      go_ret
      exact ⟨_,rfl,by rw [← HF.out,HF2.out]; exact HV.out.base (by omega),SB.out _ BR.out⟩
 · have hfv : Hid (foundV ⟨al,n,mr,ed⟩ = []) := by simp [Hid,foundV,hn]
   go_enter Try.func79,Try.ntmps79
   go_wp2_with fail
   go_loop [3,4] (fun v j => v = .slice none 0 0 ∧ j = .int .i64 0) (fun _ _ => 0)
   case atStart => exact ⟨rfl,rfl⟩
   case round =>
    obtain ⟨rfl,rfl⟩ := hrel
    go_wp2
    go_ret
    exact ⟨_,rfl,by rw [hfv.out]; exact Own.nil _,B0.out⟩
section

structure OutSt (b : Nat) (nn : Int) (v1 v2 v3 : Value) (ms : List Int) (es : List Ed) (w : World) : Prop where
 blk : BlkAt w b 39 [v1,.int .i64 nn,v2,v3]
 o2 : OwnI (b + 1) ms v2 w
 o3 : Own Ed.cells 3 68 (b + 1) es v3 w
 d : ∀ g,v2.ownBlock = some g → v3.ownBlock ≠ some g
section
variable {b : Nat} {nn : Int} {v1 v2 v3 : Value} {ms : List Int} {es : List Ed} {w w1 : World}
theorem OutSt.below (h : OutSt b nn v1 v2 v3 ms es w) (hb : Below w.heap.size w w1) : OutSt b nn v1 v2 v3 ms es w1 :=
 ⟨h.blk.below hb h.blk.lt,h.o2.below hb (Nat.le_refl _),h.o3.below hb (Nat.le_refl _),h.d⟩
theorem OutSt.z (h : OutSt b nn v1 v2 v3 ms es w) (o : Obj) : b + 1 ≤ (w.alloc o).heap.size := by have := h.blk.lt; simp only [World.size_alloc]; omega
theorem OutSt.mark (h : OutSt b nn v1 v2 v3 ms es w) {v2' : Value} {ms' : List Int} (ho : OwnI (b + 1) ms' v2' w1) (hg : w.grownBy w1 v2.ownBlock) (hat : v2'.ownBlock = v2.ownBlock ∨ v2'.ownBlock = some w.heap.size) :
 OutSt b nn v1 v2' v3 ms' es (w1.setCell ⟨b,2,none⟩ v2') := by
 have hd : ∀ g,v2'.ownBlock = some g → v3.ownBlock ≠ some g := fun g hg' h3 => by
  rcases hat with e | e
  · exact h.d g (e ▸ hg') h3
  · rw [e] at hg'; cases hg'; exact Nat.lt_irrefl _ (h.o3.lt _ h3).2
 refine ⟨?_,ownsRow_setCell_below ho (Nat.lt_succ_self _) _,ownsRow_setCell_below (h.o3.kept hg ?_) (Nat.lt_succ_self _) _,hd⟩
 · exact (h.blk.grown hg (fun e => by have := (h.o2.lt _ e.symm).1; omega)).set_ 2 v2'
 · cases h3 : v3.ownBlock with
   | none => exact .inl rfl
   | some g => exact .inr (fun e => h.d g e.symm h3)
theorem OutSt.edge (h : OutSt b nn v1 v2 v3 ms es w) {v3' : Value} {es' : List Ed} (ho : Own Ed.cells 3 68 (b + 1) es' v3' w1) (hg : w.grownBy w1 v3.ownBlock) (hat : v3'.ownBlock = v3.ownBlock ∨ v3'.ownBlock = some w.heap.size) :
 OutSt b nn v1 v2 v3' ms es' (w1.setCell ⟨b,3,none⟩ v3') := by
 have hd : ∀ g,v2.ownBlock = some g → v3'.ownBlock ≠ some g := fun g hg' h3 => by
  rcases hat with e | e
  · exact h.d g hg' (e ▸ h3)
  · rw [e] at h3; cases h3; exact Nat.lt_irrefl _ (h.o2.lt _ hg').2
 refine ⟨?_,ownsRow_setCell_below (h.o2.kept hg ?_) (Nat.lt_succ_self _) _,ownsRow_setCell_below ho (Nat.lt_succ_self _) _,hd⟩
 · exact (h.blk.grown hg (fun e => by have := (h.o3.lt _ e.symm).1; omega)).set_ 3 v3'
 · cases h2 : v2.ownBlock with
   | none => exact .inl rfl
   | some g => exact .inr (fun e => h.d g h2 e.symm)
end
theorem OutSt.fro2 {b : Nat} {nn : Int} {v1 v2 v3 : Value} {ms : List Int} {es : List Ed} {w0 w w1 : World} (h : OutSt b nn v1 v2 v3 ms es w) (hb : Fro b w0 w) (hg : w.grownBy w1 v2.ownBlock) (u : Value) (i : Nat) : Fro b w0 (w1.setCell ⟨b,i,none⟩ u) :=
 (hb.grown hg fun j hj => by have := (h.o2.lt j hj).1; omega).setCell (Nat.le_refl _) u
theorem OutSt.fro3 {b : Nat} {nn : Int} {v1 v2 v3 : Value} {ms : List Int} {es : List Ed} {w0 w w1 : World} (h : OutSt b nn v1 v2 v3 ms es w) (hb : Fro b w0 w) (hg : w.grownBy w1 v3.ownBlock) (u : Value) (i : Nat) : Fro b w0 (w1.setCell ⟨b,i,none⟩ u) :=
 (hb.grown hg fun j hj => by have := (h.o3.lt j hj).1; omega).setCell (Nat.le_refl _) u

theorem Own.pushed {α : Type} {enc : α → List Value} {k T B : Nat} {l : List α} {v : Value} {w : World} {y : α} (h : w.ownsRow B T k v (l.length + 1) (l.flatMap enc ++ enc y)) : Own enc k T B (l ++ [y]) v w := by
 unfold Own; rw [List.flatMap_append,List.length_append]; simpa using h
set_option maxRecDepth 100000 in
set_option maxHeartbeats 4000000 in
theorem Canonical_c (au : Au) (p : AuP) (w : World) (hp : Au.At w au p) (hr : Raw au) (hA : p.A1 = none → au.al = [] ∧ p.c1 = 0) (hm : au.mr.length ≤ 1048576) :
 Calls Try.prog 48 #[au.val p] w (GivesAu (canonV au) w) := by
 have HP := Lib.hid hp
 have HR := Lib.hid hr
 have HA := Lib.hid hA
 have lal := hp.lal
 have n0 := hr.n0
 have n1 := hr.n1
 have hal := nodup_len 32 au.al (by
  have := hr.al.incr.pw
  exact this.imp (fun h e => by omega)) (fun x hx => by
  obtain ⟨t,ht,he⟩ := List.mem_iff_getElem.1 hx
  have := hr.al t _ ht (List.getElem?_eq_getElem ht)
  rw [he] at this; exact ⟨this.1,this.2.1⟩)
 clear hp hr hA
 have W0 : Hid (Fro w.heap.size w ((w.alloc (.cells (auCells au p).toArray 39)).alloc (.cells #[.slice none 0 0,.int .i64 0,.slice none 0 0,.slice none 0 0] 39))) := ((Fro.here w).alloc _).alloc _
 have C0 : Hid (HasAt w.heap.size (auCells au p) ((w.alloc (.cells (auCells au p).toArray 39)).alloc (.cells #[.slice none 0 0,.int .i64 0,.slice none 0 0,.slice none 0 0] 39))) := (HasAt.new w _ _ rfl).alloc _
 have R0 : Hid (BlkAt ((w.alloc (.cells (auCells au p).toArray 39)).alloc (.cells #[.slice none 0 0,.int .i64 0,.slice none 0 0,.slice none 0 0] 39)) (w.heap.size + 1) 39 [.slice none 0 0,.int .i64 0,.slice none 0 0,.slice none 0 0]) := by
  have := BlkAt.new (w.alloc (.cells (auCells au p).toArray 39)) 39 [.slice none 0 0,.int .i64 0,.slice none 0 0,.slice none 0 0]
  simpa [Hid] using this
 obtain ⟨al,n,mr,ed⟩ := au
 obtain ⟨A1,c1,A2,c2,A3,c3⟩ := p
 dsimp only [Au.val,auCells] at *
 have q0 := C0.out.c 0 _ rfl
 have q1 := C0.out.c 1 _ rfl
 have q2 := C0.out.c 2 _ rfl
 have q3 := C0.out.c 3 _ rfl
 go_enter Try.func48,Try.ntmps48
 go_wp2_with fail
 have HZ0 : Hid (w.heap.size + 2 ≤ ((w.alloc (.cells #[.slice A1 al.length c1,.int .i64 n,.slice A2 mr.length c2,.slice A3 ed.length c3] 39)).alloc (.cells #[.slice none 0 0,.int .i64 0,.slice none 0 0,.slice none 0 0] 39)).heap.size) := by unfold Hid; simp
 generalize hW : ((w.alloc (.cells #[.slice A1 al.length c1,.int .i64 n,.slice A2 mr.length c2,.slice A3 ed.length c3] 39)).alloc (.cells #[.slice none 0 0,.int .i64 0,.slice none 0 0,.slice none 0 0] 39)) = W at *
 clear hW
 refine (Found_c ⟨al,n,mr,ed⟩ ⟨A1,c1,A2,c2,A3,c3⟩ W (HP.out.below W0.out.b) HR.out).mono ?_
 rintro e w1 ⟨vF,rfl,HF,hb⟩
 have W1 := Lib.hid (W0.out.next hb)
 have HZ1 := Lib.hid (Nat.le_trans HZ0.out hb.size)
 have C1 := Lib.hid (C0.out.below hb)
 have R1 : Hid (BlkAt w1 (w.heap.size + 1) 39 [.slice none 0 0,.int .i64 0,.slice none 0 0,.slice none 0 0]) := R0.out.below hb R0.out.lt
 obtain ⟨AF,cF,rfl⟩ := HF.out.form
 have hfl := (foundV_ok HR.out.ld n0).st.len n0
 dsimp only at hfl
 generalize hfd : foundV ⟨al,n,mr,ed⟩ = fd at *
 have HFD := Lib.hid hfd
 clear hb W0 C0 R0 q0 q1 q2 q3 hfd
 have q0 := C1.out.c 0 _ rfl
 go_wp2_with fail
 refine (Empty_c A1 c1 al w1 ((HP.out.below W1.out.b).al) (by omega) HA.out).mono ?_
 rintro e w2 ⟨AE,cE,rfl,HE,hb⟩
 have W2 := Lib.hid (W1.out.next hb)
 have C2 := Lib.hid (C1.out.below hb)
 have R2 : Hid (BlkAt w2 (w.heap.size + 1) 39 [.slice none 0 0,.int .i64 0,.slice none 0 0,.slice none 0 0]) := R1.out.below hb R1.out.lt
 have HF2 : Hid (OwnI W.heap.size fd (.slice AF fd.length cF) w2) := Own.below HF.out hb (Nat.le_refl _)
 clear hb W1 C1 R1 q0 HF
 go_wp2_with fail
 have ST : Hid (OutSt w2.heap.size fd.length (.slice AE al.length cE) (.slice none 0 0) (.slice none 0 0) [] [] (w2.alloc (.cells #[.slice AE al.length cE,.int .i64 fd.length,.slice none 0 0,.slice none 0 0] 39))) := ⟨BlkAt.new w2 _ [_,_,_,_],Own.nil _,Own.nil _,fun _ h => by cases h⟩
 have BB : Hid (Fro w2.heap.size w2 (w2.alloc (.cells #[.slice AE al.length cE,.int .i64 fd.length,.slice none 0 0,.slice none 0 0] 39))) := (Fro.here w2).alloc _
 generalize hW3 : w2.alloc (.cells #[.slice AE al.length cE,.int .i64 fd.length,.slice none 0 0,.slice none 0 0] 39) = W3 at *
 clear hW3
 have PB : Hid (∀ V,Fro w2.heap.size w2 V → Au.At V ⟨al,n,mr,ed⟩ ⟨A1,c1,A2,c2,A3,c3⟩) := fun V hb => HP.out.below (W2.out.next hb.b).b
 have FB : Hid (∀ V,Fro w2.heap.size w2 V → IntsAt V AF fd) := fun V hb => HF2.out.ints.below IntE.stays hb.b
 have CB : Hid (∀ V,Fro w2.heap.size w2 V → HasAt w.heap.size [.slice A1 al.length c1,.int .i64 n,.slice A2 mr.length c2,.slice A3 ed.length c3] V) := fun V hb => C2.out.below hb.b
 go_loopw [5] (fun j wr => ∃ (i : Nat) (v2 v3 : Value),j = .int .i64 i ∧ i ≤ fd.length ∧ Hid (OutSt w2.heap.size fd.length (.slice AE al.length cE) v2 v3 (marksV mr fd i) (rowsV ed fd al i) wr) ∧ Hid (Fro w2.heap.size w2 wr)) (fun j _ => fd.length - (intOf j).toNat)
 case atStart => exact ⟨0,_,_,rfl,by omega,ST.out,BB.out⟩
 case round =>
  obtain ⟨i,v2,v3,rfl,hi,HS,BR⟩ := hrel
  by_cases hlt : i < fd.length
  · have q2 := (CB.out wr BR.out).c 2 _ rfl
    obtain ⟨b,off,rfl,hbl,hcs⟩ := IntsAt.found (FB.out wr BR.out) (List.getElem?_eq_getElem hlt)
    have HSI := Lib.hid (show fd.getD i 0 = fd[i] by rw [List.getD_eq_getElem?_getD,List.getElem?_eq_getElem hlt]; rfl)
    have HGI := Lib.hid (List.getElem?_eq_getElem hlt)
    generalize hs : fd[i] = s at *
    clear hs
    have HMS := Lib.hid (marksV_succ mr fd i)
    have hml := marksV_len mr fd i
    go_wp2_with fail
    go_still_tail 6,(by kernel_rfl)
    change wpList _ _ _ _ _ wr.drew
    go_wp2_with fail
    have BD := Lib.hid BR.out.drew
    have HSD : Hid (OutSt w2.heap.size fd.length (.slice AE al.length cE) v2 v3 (marksV mr fd i) (rowsV ed fd al i) wr.drew) := HS.out.below (Below.refl _ _).drew
    refine (rhas_c A2 c2 mr s wr.drew ((PB.out _ BD.out).mr) (by omega)).mono ?_
    intro e w3 hs2
    obtain ⟨r,rfl,hr,rfl⟩ := hs2
    have HRR := Lib.hid hr
    clear hr
    generalize hwd : wr.drew = wd at *
    clear hwd BR q2 hcs HS
    go_upto_if 28 with fail
    go_cut [] (fun wx => Hid (Fro w2.heap.size w2 wx) ∧ ∃ v2' : Value,Hid (OutSt w2.heap.size fd.length (.slice AE al.length cE) v2' v3 (marksV mr fd (i + 1)) (rowsV ed fd al i) wx))
    case first =>
     cases r with
     | false =>
       have HM2 : Hid (¬ s ∈ mr) := fun h => by have := HRR.out.2 h; cases this
       clear HRR
       go_wp2_with fail
       go_meet
       exact ⟨BD.out,v2,by rw [HMS.out,HSI.out,if_neg HM2.out]; exact HSD.out⟩
     | true =>
       have HM2 := Lib.hid (HRR.out.1 rfl)
       clear HRR
       have b2 := HSD.out.blk.cell 2
       have f2 := HSD.out.blk.free 2
       go_wp2_with (at_builtin; refine wpList_push rfl _ _ 36 rfl (HSD.out.o2.alloc _) Try.underlying36 _ 8 intInfo rfl (by decide) rfl (i : Int) wd.heap.size rfl rfl (one_cell _ _ _ _ rfl) (encI_one _) (by omega) (by decide) (HSD.out.z _) ?_)
       intro A' c' w5 ho hg hat
       have HSA : Hid (OutSt w2.heap.size fd.length (.slice AE al.length cE) v2 v3 (marksV mr fd i) (rowsV ed fd al i) (wd.alloc (.cells #[.int .i64 i] 3))) := HSD.out.below (Below.new _ _)
       have HO := Lib.hid ho
       have HG : Hid ((wd.alloc (.cells #[.int .i64 i] 3)).grownBy w5 v2.ownBlock) := hg
       have HAT : Hid ((Value.slice A' ((marksV mr fd i).length + 1) c').ownBlock = v2.ownBlock ∨ (Value.slice A' ((marksV mr fd i).length + 1) c').ownBlock = some (wd.alloc (.cells #[.int .i64 i] 3)).heap.size) := by simp only [Hid,World.size_alloc]; exact hat
       have q2 : w5.cell? ⟨w2.heap.size,2,none⟩ = some v2 := (HSA.out.blk.grown HG.out (fun e => by have := (HSA.out.o2.lt _ e.symm).1; omega)).cell 2
       have q2f : w5.frozen? ⟨w2.heap.size,2,none⟩ = false := (HSA.out.blk.grown HG.out (fun e => by have := (HSA.out.o2.lt _ e.symm).1; omega)).free 2
       clear ho hg hat b2 f2
       go_wp2_with fail
       go_meet
       exact ⟨HSA.out.fro2 (BD.out.alloc _) HG.out _ 2,_,by rw [HMS.out,HSI.out,if_pos HM2.out]; exact HSA.out.mark HO.out HG.out HAT.out⟩
    case rest =>
     obtain ⟨BC,v2',HSC⟩ := hcut
     clear HSD BD HRR
     go_wp2_with fail
     go_loopw [6] (fun j wr => ∃ (k : Nat) (v3' : Value),j = .int .i64 k ∧ k ≤ al.length ∧ Hid (OutSt w2.heap.size fd.length (.slice AE al.length cE) v2' v3' (marksV mr fd (i + 1)) (rowsV ed fd al i ++ rowV ed fd i (al.take k)) wr) ∧ Hid (Fro w2.heap.size w2 wr)) (fun j _ => al.length - (intOf j).toNat)
     case atStart => exact ⟨0,_,rfl,by omega,by simpa [rowV,Hid] using HSC.out,BC.out⟩
     case round =>
      obtain ⟨k,v3',rfl,hk,HS3,BR3⟩ := hrel
      have C3 := Lib.hid (CB.out wr BR3.out)
      have q0 := C3.out.c 0 _ rfl
      have q1 := C3.out.c 1 _ rfl
      have q2 := C3.out.c 2 _ rfl
      have q3 := C3.out.c 3 _ rfl
      by_cases hkl : k < al.length
      · obtain ⟨b',off',hAF,_,hcs⟩ := IntsAt.found (FB.out wr BR3.out) HGI.out
        cases hAF
        obtain ⟨b2,off2,e,hA1,hb2,he,hce⟩ := IntsAt.at ((PB.out wr BR3.out).al) hkl
        dsimp only at hA1
        subst hA1
        have HT := Lib.hid (show al.take (k + 1) = al.take k ++ [e] by rw [List.take_add_one,he]; rfl)
        have HRW := Lib.hid (rowV_snoc ed fd i (al.take k) e)
        have HIN : Hid (e ∈ al) := List.mem_of_getElem? he
        have hr1 := rowsV_len ed fd al i
        have hr2 := rowV_len ed fd i (al.take k)
        have hr3 : (al.take k).length ≤ k := List.length_take_le _ _
        have hr4 : i * al.length ≤ 4096 * 32 := Nat.mul_le_mul (by omega) hal
        have HK := Lib.hid he
        clear he
        have BD := Lib.hid BR3.out.drew
        have HSD : Hid (OutSt w2.heap.size fd.length (.slice AE al.length cE) v2' v3' (marksV mr fd (i + 1)) (rowsV ed fd al i ++ rowV ed fd i (al.take k)) wr.drew) := HS3.out.below (Below.refl _ _).drew
        go_wp2_with fail
        go_still_tail 10,(by kernel_rfl)
        change wpList _ _ _ _ _ wr.drew
        go_wp2_with fail
        refine (rstep_c ⟨al,n,mr,ed⟩ ⟨some ⟨b2,off2,none⟩,c1,A2,c2,A3,c3⟩ s e wr.drew (PB.out _ BD.out).ed HP.out.led).mono ?_
        rintro e1 w5 ⟨rfl,hb3⟩
        have B5 := Lib.hid (BD.out.next hb3)
        have HS5 := Lib.hid (HSD.out.below hb3)
        clear hb3 q0 q1 q2 q3 hcs hce C3
        dsimp only
        have HTV := Lib.hid (show nextV ed (fd.getD i 0) e = nextV ed s e by rw [HSI.out])
        generalize ht : nextV ed s e = t at *
        clear ht HSD BD HS3 BR3
        by_cases h0 : 0 ≤ t
        · have C3 := Lib.hid (CB.out w5 B5.out)
          have q0 := C3.out.c 0 _ rfl
          have b3 := HS5.out.blk.cell 3
          have f3 := HS5.out.blk.free 3
          obtain ⟨b'',off'',hA1,_,hce⟩ := IntsAt.found ((PB.out w5 B5.out).al) HK.out
          cases hA1
          have FD := Lib.hid (FB.out _ B5.out.drew)
          have hz5 := HS5.out.blk.lt
          have hne : ¬ w2.heap.size = w5.heap.size := by omega
          have hne2 : ¬ w5.heap.size = w2.heap.size := by omega
          have HSE : Hid (OutSt w2.heap.size fd.length (.slice AE al.length cE) v2' v3' (marksV mr fd (i + 1)) (rowsV ed fd al i ++ rowV ed fd i (al.take k)) ((w5.alloc (.cells #[.int .i64 i,.int .i64 e,.int .i64 (idxV fd t)] 68)).drew)) := HS5.out.below (Below.new _ _).drew
          have HLN : Hid ((rowsV ed fd al i ++ rowV ed fd i (al.take k)).length ≤ 140000) := by unfold Hid; rw [List.length_append]; omega
          have hln := HLN.out
          generalize hes : rowsV ed fd al i ++ rowV ed fd i (al.take k) = es at *
          have HES := Lib.hid hes
          clear hes
          have HO3 := Lib.hid HSE.out.o3
          go_wp2_with fail
          go_region_law (first
           | (refine step_append_at rfl (.tmp 56) (.tmp 67) 37 rfl (w2.heap.size + 1) 68 _ 3 24 Try.underlying37 edInfo rfl (by decide) v3' _ _ rfl HO3.out ⟨w5.heap.size,0,none⟩ 1 1 (Ed.cells ⟨(i : Int),e,idxV fd t⟩) rfl rfl ?_ ?_ ?_ ?_ ?_ ?_
              (exact new_cells (by simp))
              (intro u hu; simp [Ed.cells] at hu; rcases hu with rfl | rfl | rfl <;> rfl)
              (simp only [maxLen]; omega)
              (omega)
              (simp; omega)
              intro A' c' w7 ho hg hb'
              have HO7 := Lib.hid (Own.pushed ho)
              have HG7 := Lib.hid hg
              have HB7 := Lib.hid hb'
              have q7 : w7.cell? ⟨w2.heap.size,3,none⟩ = some v3' := (HSE.out.blk.grown HG7.out (fun e => by have := (HSE.out.o3.lt _ e.symm).1; omega)).cell 3
              have q7f : w7.frozen? ⟨w2.heap.size,3,none⟩ = false := (HSE.out.blk.grown HG7.out (fun e => by have := (HSE.out.o3.lt _ e.symm).1; omega)).free 3
              clear ho hg hb')
           | (go_simp; go_at_call 82; refine (index_c (some ⟨b,off,none⟩) cF fd t _ FD.out (by omega)).mono ?_; rintro e1 w6 ⟨rfl,rfl⟩))
          all_goals
           go_wp2
           go_roundw
           case rel => exact ⟨k + 1,_,by go_num,by omega,by rw [HT.out,HRW.out,HTV.out,if_pos h0,← List.append_assoc,HES.out]; exact HSE.out.edge HO7.out HG7.out HB7.out,HSE.out.fro3 (B5.out.alloc _).drew HG7.out _ 3⟩
           case measure => simp [intOf]; omega
        · go_wp2
          go_roundw
          case rel => exact ⟨k + 1,v3',by go_num,by omega,by rw [HT.out,HRW.out,HTV.out,if_neg h0]; exact HS5.out,B5.out⟩
          case measure => simp [intOf]; omega
      · obtain rfl : k = al.length := by omega
        have HTL := Lib.hid (List.take_length (l := al))
        have HRS := Lib.hid (rowsV_succ ed fd al i)
        go_wp2
        go_roundw
        case rel => exact ⟨i + 1,v2',v3',by go_num,by omega,by rw [HRS.out]; have := HS3.out; simp only [HTL.out] at this; exact this,BR3.out⟩
        case measure => simp [intOf]; omega
  · obtain rfl : i = fd.length := by omega
    obtain ⟨M2,m2,rfl⟩ := HS.out.o2.form
    obtain ⟨M3,m3,rfl⟩ := HS.out.o3.form
    have RW : Hid (BlkAt wr (w.heap.size + 1) 39 [.slice none 0 0,.int .i64 0,.slice none 0 0,.slice none 0 0]) := R2.out.below BR.out.b R2.out.lt
    have r0 := RW.out.cell 0
    have r1 := RW.out.cell 1
    have r2 := RW.out.cell 2
    have r3 := RW.out.cell 3
    have g0 := RW.out.free 0
    have g1 := RW.out.free 1
    have g2 := RW.out.free 2
    have g3 := RW.out.free 3
    have s0 := HS.out.blk.cell 0
    have s1 := HS.out.blk.cell 1
    have s2 := HS.out.blk.cell 2
    have s3 := HS.out.blk.cell 3
    have HC : Hid (canonV ⟨al,n,mr,ed⟩ = ⟨al,fd.length,marksV mr fd fd.length,rowsV ed fd al fd.length⟩) := by simp [Hid,canonV,HFD.out]
    have hml := marksV_len mr fd fd.length
    have hr1 := rowsV_len ed fd al fd.length
    have hr4 : fd.length * al.length ≤ 4096 * 32 := Nat.mul_le_mul (by omega) hal
    have hne : ¬ w.heap.size + 1 = w2.heap.size := by have := R2.out.lt; omega
    go_wp2
    refine bodyPost_ret (v := .agg #[.slice AE al.length cE,.int .i64 fd.length,.slice M2 (marksV mr fd fd.length).length m2,.slice M3 (rowsV ed fd al fd.length).length m3]) (by simp [results,Try.results48,go_sem, *]) rfl ?_
    rw [HC.out]
    have st : ∀ {α : Type} {enc : α → List Value} {kk TT B : Nat} {l : List α} {v : Value} (V : World) (j : Nat) (u : Value),w.heap.size + 2 ≤ B → Own enc kk TT B l v V → Own enc kk TT B l v (V.setCell ⟨w.heap.size + 1,j,none⟩ u) := fun V j u hB h => ownsRow_setCell_below h (show w.heap.size + 1 < _ by omega) u
    have a1 : OwnI w1.heap.size al (.slice AE al.length cE) wr := Own.below HE.out BR.out.b (Nat.le_refl _)
    have z2 : w.heap.size + 2 ≤ w2.heap.size + 1 := by have := R2.out.lt; omega
    refine ⟨⟨AE,cE,M2,m2,M3,m3⟩,rfl,Lib.hid (AuOwn.mk ?_ ?_ ?_ (fun g h1 h2 => ?_) (fun g h1 h2 => ?_) HS.out.d ⟨by simp only; omega,by simp only; omega,by simp only; omega⟩),?_⟩
    · exact (st _ _ _ HZ1.out (st _ _ _ HZ1.out (st _ _ _ HZ1.out (st _ _ _ HZ1.out a1)))).base (by have := HZ1.out; omega)
    · exact (st _ _ _ z2 (st _ _ _ z2 (st _ _ _ z2 (st _ _ _ z2 HS.out.o2)))).base (by omega)
    · exact (st _ _ _ z2 (st _ _ _ z2 (st _ _ _ z2 (st _ _ _ z2 HS.out.o3)))).base (by omega)
    · have := (HE.out.lt g h1).2; have := (HS.out.o2.lt g h2).1; omega
    · have := (HE.out.lt g h1).2; have := (HS.out.o3.lt g h2).1; omega
    · have bb : Fro w.heap.size w wr := W2.out.next BR.out.b
      exact ((((bb.setCell (by omega) _).setCell (by omega) _).setCell (by omega) _).setCell (by omega) _).b
end
theorem SlAt.blk {α : Type} {enc : α → List Value} {k : Nat} (hk : ∀ x,(enc x).length = k) {w : World} {g : Nat} {T : TypeId} (l : List α) (h : BlkAt w g T (l.flatMap enc)) : SlAt (fun _ x vs => vs = enc x) k w (some ⟨g,0,none⟩) l :=
 fun _ => ⟨g,0,rfl,h.lt,fun i x hx => ⟨enc x,hk x,rfl,fun j u hj => by
  have hj' : j < k := by rw [← hk x]; exact (List.getElem?_eq_some_iff.1 hj).1
  rw [Nat.zero_add,h.cell,flat_get hk l i j x hx hj',hj]⟩⟩
theorem BlkAt.newAt {W : World} {T : TypeId} {cs : List Value} {g : Nat} (hg : g = W.heap.size) {o : Obj} (ho : o = .cells cs.toArray T) : BlkAt (W.alloc o) g T cs := by subst hg; subst ho; exact BlkAt.new W T cs
theorem IntsAt.blk {w : World} {g : Nat} {T : TypeId} (l : List Int) (h : BlkAt w g T (l.map (Value.int .i64))) : IntsAt w (some ⟨g,0,none⟩) l :=
 SlAt.blk (enc := fun x => [.int .i64 x]) (fun _ => rfl) l (by rw [show l.flatMap (fun x => [Value.int .i64 x]) = l.map (Value.int .i64) from flat_encI l]; exact h)
def allV (l : List Int) : Au := ⟨l,1,[0],l.map fun x => ⟨0,x,0⟩⟩
theorem Own.cap {α : Type} {enc : α → List Value} {k T B : Nat} {l : List α} {A : Option Addr} {c : Nat} {w : World} (h : Own enc k T B l (.slice A l.length c) w) : l.length ≤ c := by
 rcases h.2 with ⟨h1,h2⟩ | ⟨g,cap,cur,h1,_,_,h2,_⟩
 · omega
 · cases h1; exact h2
structure Caps (a : Au) (p : AuP) : Prop where
 c1 : a.al.length ≤ p.c1
 c2 : a.mr.length ≤ p.c2
 c3 : a.ed.length ≤ p.c3
def GivesR (a : Au) (w : World) (e : Ending) (w' : World) : Prop := ∃ p,e = .returned (a.val p) ∧ Hid (Au.At w' a p) ∧ Hid (Caps a p) ∧ Below w.heap.size w w'
structure AllSt (b : Nat) (v1 v2 v3 : Value) (es : List Ed) (w : World) : Prop where
 blk : BlkAt w b 39 [v1,.int .i64 1,v2,v3]
 o3 : Own Ed.cells 3 68 (b + 1) es v3 w
theorem AllSt.below {b : Nat} {v1 v2 v3 : Value} {es : List Ed} {w w1 : World} (h : AllSt b v1 v2 v3 es w) (hb : Below w.heap.size w w1) : AllSt b v1 v2 v3 es w1 := ⟨h.blk.below hb h.blk.lt,h.o3.below hb (Nat.le_refl _)⟩
def evenV : Au := ⟨[0],2,[0],[⟨0,0,1⟩,⟨1,0,0⟩]⟩
theorem SlAt.sub {α : Type} {E : Reading α} {k : Nat} {w : World} {b off : Nat} {l : List α} (h : SlAt E k w (some ⟨b,off,none⟩) l) (i j : Nat) : SlAt E k w (some ⟨b,off + i * k,none⟩) ((l.take j).drop i) := by
 intro hne
 have hne' : l ≠ [] := by rintro rfl; simp at hne
 obtain ⟨b',o',e,hb,hr⟩ := h hne'
 cases e
 refine ⟨b,off + i * k,rfl,hb,fun t x hx => ?_⟩
 rw [List.getElem?_drop] at hx
 have hx' : l[i + t]? = some x := by
  rw [List.getElem?_take] at hx
  split at hx
  · exact hx
  · cases hx
 obtain ⟨vs,h1,h2,h3⟩ := hr (i + t) x hx'
 refine ⟨vs,h1,h2,fun q v hq => ?_⟩
 have := h3 q v hq
 rw [show off + i * k + t * k + q = off + (i + t) * k + q by rw [Nat.add_mul]; omega]
 exact this
structure EdgRow (w : World) (l : List Ed) (n : Nat) (vs : List Value) : Prop where
 len : vs.length = n
 row : ∀ s,s < n → ∃ A c,vs[s]? = some (.slice A (outOf l s).length c) ∧ EdsAt w A (outOf l s) ∧ (outOf l s).length ≤ c
theorem EdgRow.nil (w : World) (n : Nat) : EdgRow w [] n (List.replicate n (.slice none 0 0)) :=
 ⟨by simp,fun s hs => ⟨none,0,by rw [List.getElem?_replicate,if_pos hs]; rfl,SlAt.nil,by simp [outOf]⟩⟩
def Brk (ed : List Ed) (k : Nat) : Prop := ∀ (i j : Nat) x y,i < k → k ≤ j → ed[i]? = some x → ed[j]? = some y → x.src < y.src
theorem outOf_take {ed : List Ed} {k t s : Nat} (hk : k ≤ t) (hb : Brk ed k) (hk2 : ∃ x,ed[k]? = some x ∧ x.src = (s : Int)) (hs : ∀ i x,k ≤ i → i < t → ed[i]? = some x → x.src = (s : Int)) (u : Nat) :
 outOf (ed.take t) u = if u = s then (ed.take t).drop k else outOf (ed.take k) u := by
 have e1 : ed.take t = ed.take k ++ (ed.take t).drop k := by
  conv => lhs; rw [← List.take_append_drop k (ed.take t)]
  rw [List.take_take,Nat.min_eq_left hk]
 have m1 : ∀ x,x ∈ (ed.take t).drop k → x.src = (s : Int) := fun x hx => by
  obtain ⟨i,hi,rfl⟩ := List.mem_iff_getElem.1 hx
  have hi' : (ed.take t)[k + i]? = some ((ed.take t).drop k)[i] := by
   rw [← List.getElem?_drop]; exact List.getElem?_eq_getElem hi
  rw [List.getElem?_take] at hi'
  split at hi'
  · rename_i h; exact hs (k + i) _ (by omega) h hi'
  · cases hi'
 have m2 : ∀ x,x ∈ ed.take k → x.src < (s : Int) := fun x hx => by
  obtain ⟨i,hi,rfl⟩ := List.mem_iff_getElem.1 hx
  have hil : i < k := by rw [List.length_take] at hi; omega
  obtain ⟨y,hy,hys⟩ := hk2
  have hi' : ed[i]? = some (ed.take k)[i] := by
   have := List.getElem?_eq_getElem hi
   rw [List.getElem?_take,if_pos hil] at this
   exact this
  have := hb i k _ y hil (Nat.le_refl _) hi' hy
  omega
 rw [e1]
 unfold outOf
 rw [List.filter_append]
 by_cases hu : u = s
 · subst hu
   rw [if_pos rfl,List.filter_eq_nil_iff.2 (fun x hx => by have := m2 x hx; simp; omega),List.nil_append,List.filter_eq_self.2 (fun x hx => by simpa using m1 x hx)]
   rw [← e1]
 · have m3 : ((ed.take t).drop k).filter (fun x => decide (x.src = (u : Int))) = [] := List.filter_eq_nil_iff.2 (fun x hx => by have := m1 x hx; simp; omega)
   rw [if_neg hu,m3,List.append_nil]
theorem Brk.next {ed : List Ed} (hl : ∀ (i j : Nat) x y,i < j → ed[i]? = some x → ed[j]? = some y → x.src ≤ y.src) {k t : Nat} {s : Int} (hb : Brk ed k) (hk2 : ∃ x,ed[k]? = some x ∧ x.src = s) (hkt : k < t) (hs : ∀ i x,k ≤ i → i < t → ed[i]? = some x → x.src = s)
 (he : t = ed.length ∨ ∃ y,ed[t]? = some y ∧ y.src ≠ s) : Brk ed t := by
 intro i j x y hi hj hx hy
 have hjl := (List.getElem?_eq_some_iff.1 hy).1
 rcases he with rfl | ⟨z,hz,hzs⟩
 · omega
 · obtain ⟨q,hq,hqs⟩ := hk2
   have h1 : x.src ≤ s := by
    by_cases h : i < k
    · have := hb i k x q h (Nat.le_refl _) hx hq; omega
    · exact Int.le_of_eq (hs i x (by omega) hi hx)
   have h2 : s < z.src := by
    have := hl k t q z hkt hq hz; omega
   have h3 : z.src ≤ y.src := by
    by_cases h : t = j
    · subst h; rw [hz] at hy; cases hy; exact Int.le_refl _
    · exact hl t j z y (by omega) hz hy
   omega
theorem EdgRow.set {w : World} {ed : List Ed} {n : Nat} {vs : List Value} {k t s : Nat} (h : EdgRow w (ed.take k) n vs) (hkt : k < t) (htl : t ≤ ed.length) (hb : Brk ed k) (hk2 : ∃ x,ed[k]? = some x ∧ x.src = (s : Int)) (hs : ∀ i x,k ≤ i → i < t → ed[i]? = some x → x.src = (s : Int))
 {b off c : Nat} (hE : EdsAt w (some ⟨b,off,none⟩) ed) (hc : ed.length ≤ c) : EdgRow w (ed.take t) n (vs.set s (.slice (some ⟨b,off + k * 3,none⟩) (t - k) (c - k))) := by
 refine ⟨by simp [h.len],fun u hu => ?_⟩
 rw [outOf_take (by omega) hb hk2 hs u]
 by_cases e : u = s
 · subst e
   rw [if_pos rfl,List.getElem?_set_self (by rw [h.len]; exact hu)]
   have hl : ((ed.take t).drop k).length = t - k := by rw [List.length_drop,List.length_take]; omega
   exact ⟨_,_,by rw [hl],hE.sub k t,by rw [hl]; omega⟩
 · rw [if_neg e,List.getElem?_set_ne (fun g => e g.symm)]
   exact h.row u hu
def GivesE (a : Au) (p : AuP) (n : Nat) (w : World) (e : Ending) (w' : World) : Prop := ∃ g vs,e = .returned (.slice (some ⟨g,0,none⟩) n n) ∧ Hid (Sep w.heap.size w [eBlk g 37 vs] w') ∧ Hid (∀ V,EdsAt V p.A3 a.ed → EdgRow V a.ed n vs)
def sigB (q : Int × List (Int × Int)) : List Int := two q.1 ++ q.2.flatMap fun x => two x.1 ++ two x.2
def keyOne (mr : List Int) (s : Nat) : ByteArray := if (s : Int) ∈ mr then ⟨#[109]⟩ else ⟨#[]⟩
def keyTwo (a : Au) (c : List Int) (s : Nat) : ByteArray := strOfNums (sigB (sigV a c s))

theorem rises_len {n : Nat} {l : List Int} (h : Rises (fun x y : Int => x < y) l) (hr : ∀ x,x ∈ l → 0 ≤ x ∧ x < n) : l.length ≤ n := by
 have key : ∀ (i : Nat) x,l[i]? = some x → (i : Int) ≤ x := by
  intro i
  induction i with
  | zero => intro x hx; exact (hr x (List.mem_of_getElem? hx)).1
  | succ i ih =>
    intro x hx
    have hi := (List.getElem?_eq_some_iff.1 hx).1
    have h1 := ih _ (List.getElem?_eq_getElem (show i < l.length by omega))
    have h2 := h i (i + 1) _ x (by omega) (List.getElem?_eq_getElem (show i < l.length by omega)) hx
    omega
 rcases Nat.eq_zero_or_pos l.length with e | e
 · omega
 · have h1 := key (l.length - 1) _ (List.getElem?_eq_getElem (by omega))
   have h2 := hr _ (List.getElem_mem (show l.length - 1 < l.length by omega))
   omega
theorem Au.Right.ev {a : Au} (hr : a.Right) {x : Ed} (hx : x ∈ a.ed) : 0 ≤ x.ev ∧ x.ev < 32 := by
 obtain ⟨p,hp,hpx⟩ := List.mem_iff_getElem.1 hx
 have := (hr.edge (p := p) (by rw [List.getElem?_eq_getElem hp,hpx])).2.2.2.2
 obtain ⟨i,hi,hix⟩ := List.mem_iff_getElem.1 this
 have := hr.al i _ hi (List.getElem?_eq_getElem hi)
 rw [hix] at this
 exact ⟨this.1,this.2.1⟩
def sgL (c : List Int) (l : List Ed) : List Int := l.flatMap fun x => two x.ev ++ two (clsV c x.dst)
theorem EdgRow.below {w w' : World} {l : List Ed} {n : Nat} {vs : List Value} (h : EdgRow w l n vs) (hb : Below w.heap.size w w') : EdgRow w' l n vs :=
 ⟨h.len,fun s hs => let ⟨A,c,h1,h2,h3⟩ := h.row s hs; ⟨A,c,h1,h2.below EdE.stays hb,h3⟩⟩
theorem Canon.le {c : List Int} {m : Nat} (h : Canon c m) : m ≤ c.length := (pigeon (fun y => (c.getD y 0).toNat) m c.length fun x hx => by
 obtain ⟨s,hs⟩ := h.on x hx
 exact ⟨s,(List.getElem?_eq_some_iff.1 hs).1,by rw [getD_some hs]; simp⟩).1
def GivesC (a : Au) (w : World) (e : Ending) (w' : World) : Prop := ∃ g c m,e = .returned (.slice (some ⟨g,0,none⟩) a.n.toNat a.n.toNat) ∧ Hid (Sep w.heap.size w [eBlk g 3 (c.map (Value.int .i64))] w') ∧ Hid (c.length = a.n.toNat ∧ Canon c m ∧ ∀ i j : Nat,i < c.length → j < c.length → (c[i]? = c[j]? ↔ Eqv a i j))
section

section
variable {σ κ : Type} {key : σ → κ} {out : σ → List (Int × σ)} {s0 : σ}
structure Mks (P : σ → Prop) (fs : List σ) (i : Nat) (M : List Int) : Prop where
 up : Rises (fun x y : Int => x < y) M
 mem : ∀ x,x ∈ M ↔ ∃ (d : Nat) (v : σ),x = d ∧ d < i ∧ fs[d]? = some v ∧ P v
variable {P : σ → Prop} {fs : List σ} {i : Nat} {M : List Int}
theorem Mks.start (P : σ → Prop) (fs : List σ) : Mks P fs 0 [] := ⟨fun i j u v _ hu => by simp at hu,fun x => by simp⟩
theorem Mks.lt (h : Mks P fs i M) {x : Int} (hx : x ∈ M) : 0 ≤ x ∧ x < i := by
 obtain ⟨d,v,h1,h2,_⟩ := (h.mem x).1 hx
 omega
theorem Mks.yes (h : Mks P fs i M) {v : σ} (hv : fs[i]? = some v) (hp : P v) : Mks P fs (i + 1) (M ++ [(i : Int)]) := by
 refine ⟨h.up.push fun u hu => (h.lt hu).2,fun x => ?_⟩
 rw [List.mem_append,List.mem_singleton,h.mem]
 constructor
 · rintro (⟨d,u,h1,h2,h3,h4⟩ | rfl)
   · exact ⟨d,u,h1,by omega,h3,h4⟩
   · exact ⟨i,v,rfl,by omega,hv,hp⟩
 · rintro ⟨d,u,h1,h2,h3,h4⟩
   by_cases e : d = i
   · exact .inr (by rw [h1,e])
   · exact .inl ⟨d,u,h1,by omega,h3,h4⟩
theorem Mks.no (h : Mks P fs i M) {v : σ} (hv : fs[i]? = some v) (hp : ¬ P v) : Mks P fs (i + 1) M := by
 refine ⟨h.up,fun x => ?_⟩
 rw [h.mem]
 constructor
 · rintro ⟨d,u,h1,h2,h3,h4⟩
   exact ⟨d,u,h1,by omega,h3,h4⟩
 · rintro ⟨d,u,h1,h2,h3,h4⟩
   by_cases e : d = i
   · subst e; rw [hv] at h3; cases h3; exact absurd h4 hp
   · exact ⟨d,u,h1,by omega,h3,h4⟩
theorem Mks.grow (h : Mks P fs i M) (hi : i ≤ fs.length) (t : σ) : Mks P (fs ++ [t]) i M := by
 refine ⟨h.up,fun x => ?_⟩
 rw [h.mem]
 constructor
 · rintro ⟨d,u,h1,h2,h3,h4⟩
   exact ⟨d,u,h1,h2,get_keep h3 _,h4⟩
 · rintro ⟨d,u,h1,h2,h3,h4⟩
   rw [List.getElem?_append_left (by omega)] at h3
   exact ⟨d,u,h1,h2,h3,h4⟩
theorem Mks.set (h : Mks P fs i M) : setOk M i M.length := by
 intro j x hj hx
 have := h.lt (List.mem_of_getElem? hx)
 exact ⟨this.1,this.2,fun y h0 hy => h.up (j - 1) j y x (by omega) hy hx⟩
theorem Mks.fin (h : Mks P fs fs.length M) (d : Nat) : (d : Int) ∈ M ↔ ∃ v,fs[d]? = some v ∧ P v := by
 rw [h.mem]
 constructor
 · rintro ⟨d',v,h1,h2,h3,h4⟩
   obtain rfl : d = d' := by omega
   exact ⟨v,h3,h4⟩
 · rintro ⟨v,h3,h4⟩
   exact ⟨d,v,rfl,(List.getElem?_eq_some_iff.1 h3).1,h3,h4⟩
theorem Bld.len {i k : Nat} {fs : List Int} {ed : List Ed} {κ : Type} {key : Int → κ} {out : Int → List (Int × Int)} {s0 : Int} {n : Nat} (h : Bld key out s0 i k fs ed) (hr : ∀ v,v ∈ fs → 0 ≤ v ∧ v < (n : Int)) : fs.length ≤ n := by
 have := sub_len (fs.map Int.toNat) (List.range n) (by
  rw [List.nodup_iff_pairwise_ne,List.pairwise_map,List.pairwise_iff_getElem]
  intro a b ha hb hab he
  have h1 := hr _ (List.getElem_mem ha)
  have h2 := hr _ (List.getElem_mem hb)
  have := h.nd a b _ _ (List.getElem?_eq_getElem ha) (List.getElem?_eq_getElem hb) (by rw [show fs[a] = fs[b] by omega])
  omega) (fun x hx => by
  obtain ⟨v,hv,rfl⟩ := List.mem_map.1 hx
  have := hr v hv
  simp; omega)
 simpa using this
end
end
theorem edOne (x : Ed) : ∀ u ∈ Ed.cells x,u.oneCell' = true := fun u hu => by simp [Ed.cells] at hu; rcases hu with rfl | rfl | rfl <;> rfl
set_option maxRecDepth 100000 in
set_option maxHeartbeats 400000 in
theorem cloneO_c (A : Option Addr) (c : Nat) (l : List Int) (w : World) (h : IntsAt w A l) (n1 : l.length ≤ 1048576) :
 Calls Try.prog 77 #[.slice A l.length c] w (GivesI l w) := by
 have q : ∀ (w : World),(binOp .eql 36 (.slice A l.length c) (.slice none 0 0)).run Try.prog w = .ok (.bool A.isNone) w := fun w => Lib.run_eql_slice_nil w _ _ A l.length c 0 0 Try.underlying36
 have hn : A = none → l = [] := fun e => by
  subst e
  cases l with
  | nil => rfl
  | cons x l => obtain ⟨b,off,h1,_⟩ := h (by simp); cases h1
 cases A with
 | none =>
   obtain rfl := hn rfl
   simp only [Option.isNone_none,List.length_nil] at q ⊢
   clear h hn
   go_enter Try.func77,Try.ntmps77
   go_wp2
   go_ret
   exact ⟨_,rfl,Own.nil w,Below.refl _ _⟩
 | some a =>
   simp only [Option.isNone_some] at q
   have H := Lib.hid h
   clear h hn
   go_enter Try.func77,Try.ntmps77
   have hown : (w.alloc (.cells #[] 3)).ownsRow w.heap.size 3 1 (.slice (some ⟨w.heap.size,0,none⟩) 0 0) 0 [] := ⟨rfl,.inr ⟨w.heap.size,0,#[],rfl,Nat.le_refl _,heap_alloc_new w _,Nat.le_refl _,by simp,rfl,rfl⟩⟩
   obtain ⟨i0,hi0,hz0,hz1,hz2⟩ := info_parts (P := Try.prog) (e := 3) (z := .int .i64 0) (size := 1) (bytes := 8) (by kernel_rfl)
   go_wp2_with (at_builtin; refine wpList_append_own_at _ rfl _ _ 36 rfl w.heap.size 3 i0 (.int .i64 0) 1 8 Try.underlying36 hi0 hz0 hz1 hz2 rfl (by decide) _ _ _ rfl hown a l.length c (l.map (Value.int .i64)) rfl (by simp) (IntsAt.cells (H.out.below IntE.stays (Below.new _ _))) (by simp [Value.oneCell']) (by simp only [maxLen]; omega) (by omega) (by simp) ?_; intro v1 w1 ho1 hg1 _ hv1)
   obtain ⟨A1,c1,rfl⟩ := own_form ho1
   simp only [Nat.zero_add,List.nil_append] at ho1 ⊢
   go_wp2
   refine bodyPost_ret (v := .slice A1 l.length c1) (by simp [results,Try.results77,go_sem]) rfl ?_
   exact ⟨_,rfl,by unfold Hid OwnI Own; rw [flat_encI]; exact ho1,(Below.new w _).grown hg1 (by simp) (fun j hj => by cases hj; simp)⟩
theorem Sep.newI {n : Nat} {w0 w w' : World} {es : List Ent} (S : Sep n w0 es w) {l : List Int} {v : Value} (ho : OwnI w.heap.size l v w') (hb : Below w.heap.size w w') : Sep n w0 (eInts l v :: es) w' :=
 S.new1 hb (eInts l v) (Own.base ho (Nat.zero_le _)) (fun g hg => (Own.lt ho g (by simpa [eOwn] using hg)).1)
theorem Sep.eds {n : Nat} {w0 w : World} {es : List Ent} (S : Sep n w0 es w) (i : Nat) {l : List Ed} {A : Option Addr} {c : Nat} (hi : es[i]? = some (eEds l (.slice A l.length c))) : EdsAt w A l := Own.reads (enc := Ed.cells) (k := 3) (T := 68) (B := 0) (fun _ => rfl) (S.get i hi)
def eAu (m : Au) (p : AuP) : List Ent := [eInts m.al (.slice p.A1 m.al.length p.c1),eInts m.mr (.slice p.A2 m.mr.length p.c2),eEds m.ed (.slice p.A3 m.ed.length p.c3)]
theorem qkN {n : Nat} {w0 w w' : World} {es es' es'' : List Ent} (S : Sep n w0 es w) (N : Sep w.heap.size w es' w') (he : es' ++ es = es'' := by (simp only [eAu, List.cons_append, List.nil_append]; rfl)) : Hid (Sep n w0 es'' w') := by
  subst he; exact S.news N
def Lens (m : Au) : Prop := m.al.length ≤ 140737488355328 ∧ m.mr.length ≤ 140737488355328 ∧ m.ed.length ≤ 140737488355328
theorem Sep.au {n : Nat} {w0 w : World} {es : List Ent} {m : Au} {p : AuP} (S : Sep n w0 (eAu m p ++ es) w) (hl : Lens m) : Au.At w m p := ⟨S.ints 0 rfl,S.ints 1 rfl,S.eds 2 rfl,hl.1,hl.2.1,hl.2.2⟩
def GivesBu (a : Au) (c : List Int) (w : World) (e : Ending) (w' : World) : Prop := ∃ m p',e = .returned (m.val p') ∧ Hid (Sep w.heap.size w (eAu m p') w') ∧ Hid (Lens m) ∧ Hid (m.al = a.al ∧ ((a.n = 0 ∧ m = ⟨a.al,0,[],[]⟩) ∨ ∃ fs,Built (clsV c) (outK a fun _ => true) 0 m fs ∧ (∀ v,v ∈ fs → 0 ≤ v ∧ v < a.n) ∧ ∀ d : Nat,(d : Int) ∈ m.mr ↔ ∃ v,fs[d]? = some v ∧ v ∈ a.mr))
theorem app_none (t ty e : TypeId) (i : TypeInfo) (z : Value) (P : Program) (ht : P.underlying t = some (.slice e)) (hi : P.info? e = some i) (hz : i.zero = some z) (A : Option Addr) (n c c' : Nat) (w : World) (h : A = none → n = 0) (hle : n ≤ c) :
 (Builtin.append_ #[t,t] ty #[.slice A n c,.slice none 0 c']).run P w = .ok (.slice A n c) w := by
 cases A with
 | none => obtain rfl := h rfl; simp [Builtin.append_,run_underlying ht,sizeOf,typeInfo,zeroValue,hi,hz,Builtin.lenOf,run_firstCells_none]
 | some a => simp [Builtin.append_,run_underlying ht,sizeOf,typeInfo,zeroValue,hi,hz,Builtin.lenOf,run_firstCells_none,hle,storeCells]
end Go.Proofs.Ytccfcaejlohahaa
