/-
  minimal.merge: the automaton of the classes.
  minimal.union: the events of two alphabets.
  minimal.step: the state to which the edge by an event leads, or -1.
  slices: Clone and Equal of ints.
  slices.Equal of edges; automaton.Equal.
-/
import Derived.Test.YtjjifefanjnghaaBas06
import Derived.Test.YtjjifefanjnghaaBas03
import Derived.Test.YtjjifefanjnghaaBas05
import Derived.Test.YtjjifefanjnghaaBas04
import Derived.Test.YtjjifefanjnghaaBas01
import Derived.BigQuiet
set_option linter.unusedSimpArgs false
set_option linter.unusedVariables false
namespace Go.Proofs.Ytjjifefanjnghaa
open Go.RowKit
set_option maxRecDepth 100000
theorem edOne (x : Ed) : ∀ u ∈ Ed.cells x,u.oneCell' = true := fun u hu => by simp [Ed.cells] at hu; rcases hu with rfl | rfl | rfl <;> rfl
theorem idxF_push {κ : Type} [DecidableEq κ] {D : List κ} {k : κ} (h : ¬ k ∈ D) (u : κ) : idxF (D ++ [k]) u = if u = k then some (D.length : Int) else idxF D u := by
 unfold idxF
 by_cases e : u = k
 · subst e
   rw [if_pos rfl,if_pos (by simp),idxK_new h]
 · rw [if_neg e]
   by_cases m : u ∈ D
   · rw [if_pos m,if_pos (List.mem_append_left _ m),idxK_app m]
   · rw [if_neg m,if_neg (by simp [m,e])]
set_option maxRecDepth 100000 in
set_option maxHeartbeats 400000 in
theorem cloneO_c (A : Option Addr) (c : Nat) (l : List Int) (w : World) (h : IntsAt w A l) (n1 : l.length ≤ 1048576) :
 Calls Try.prog 63 #[.slice A l.length c] w (GivesI l w) := by
 have q : ∀ (w : World),(binOp .eql 22 (.slice A l.length c) (.slice none 0 0)).run Try.prog w = .ok (.bool A.isNone) w := fun w => Lib.run_eql_slice_nil w _ _ A l.length c 0 0 Try.underlying22
 have hn : A = none → l = [] := fun e => by
  subst e
  cases l with
  | nil => rfl
  | cons x l => obtain ⟨b,off,h1,_⟩ := h (by simp); cases h1
 cases A with
 | none =>
   obtain rfl := hn rfl
   simp only [Option.isNone_none,List.length_nil] at q ⊢
   clear h hn
   go_enter Try.func63,Try.ntmps63
   go_wp2
   go_ret
   exact ⟨_,rfl,Own.nil w,Below.refl _ _⟩
 | some a =>
   simp only [Option.isNone_some] at q
   have H := Lib.hid h
   clear h hn
   go_enter Try.func63,Try.ntmps63
   have hown : (w.alloc (.cells #[] 3)).ownsRow w.heap.size 3 1 (.slice (some ⟨w.heap.size,0,none⟩) 0 0) 0 [] := ⟨rfl,.inr ⟨w.heap.size,0,#[],rfl,Nat.le_refl _,heap_alloc_new w _,Nat.le_refl _,by simp,rfl,rfl⟩⟩
   obtain ⟨i0,hi0,hz0,hz1,hz2⟩ := info_parts (P := Try.prog) (e := 3) (z := .int .i64 0) (size := 1) (bytes := 8) (by kernel_rfl)
   go_wp2_with (at_builtin; refine wpList_append_own_at _ rfl _ _ 22 rfl w.heap.size 3 i0 (.int .i64 0) 1 8 Try.underlying22 hi0 hz0 hz1 hz2 rfl (by decide) _ _ _ rfl hown a l.length c (l.map (Value.int .i64)) rfl (by simp) (IntsAt.cells (H.out.below IntE.stays (Below.new _ _))) (by simp [Value.oneCell']) (by simp only [maxLen]; omega) (by omega) (by simp) ?_; intro v1 w1 ho1 hg1 _ hv1)
   obtain ⟨A1,c1,rfl⟩ := own_form ho1
   simp only [Nat.zero_add,List.nil_append] at ho1 ⊢
   go_wp2
   refine bodyPost_ret (v := .slice A1 l.length c1) (by simp [results,Try.results63,go_sem]) rfl ?_
   exact ⟨_,rfl,by unfold Hid OwnI Own; rw [flat_encI]; exact ho1,(Below.new w _).grown hg1 (by simp) (fun j hj => by cases hj; simp)⟩
theorem Sep.newI {n : Nat} {w0 w w' : World} {es : List Ent} (S : Sep n w0 es w) {l : List Int} {v : Value} (ho : OwnI w.heap.size l v w') (hb : Below w.heap.size w w') : Sep n w0 (eInts l v :: es) w' :=
 S.new1 hb (eInts l v) (Own.base ho (Nat.zero_le _)) (fun g hg => (Own.lt ho g (by simpa [eOwn] using hg)).1)
theorem Sep.mapAs {κ β : Type} [DecidableEq κ] {key : κ → Value} {ve : β → Value} {n b : Nat} {w0 w : World} {es : List Ent} {f : κ → Option β} (S : Sep n w0 es w) (i : Nat) (hi : es[i]? = some (eMap key ve b f)) (g : κ → Option β) (h : ∀ x,g x = f x) : Sep n w0 (es.set i (eMap key ve b g)) w :=
 S.as i hi _ (fun hm => MapG.congr hm h) (fun _ hg => hg)
theorem Sep.eds {n : Nat} {w0 w : World} {es : List Ent} (S : Sep n w0 es w) (i : Nat) {l : List Ed} {A : Option Addr} {c : Nat} (hi : es[i]? = some (eEds l (.slice A l.length c))) : EdsAt w A l := Own.reads (enc := Ed.cells) (k := 3) (T := 70) (B := 0) (fun _ => rfl) (S.get i hi)
def eAu (m : Au) (p : AuP) : List Ent := [eInts m.al (.slice p.A1 m.al.length p.c1),eInts m.mr (.slice p.A2 m.mr.length p.c2),eEds m.ed (.slice p.A3 m.ed.length p.c3)]
theorem ckN {n : Nat} {w0 w w' : World} {es es' es'' : List Ent} (S : Sep n w0 es w) (N : Sep w.heap.size w es' w') (he : es' ++ es = es'' := by (simp only [eAu, List.cons_append, List.nil_append]; rfl)) : Hid (Sep n w0 es'' w') := by
  subst he; exact S.news N
def Lens (m : Au) : Prop := m.al.length ≤ 140737488355328 ∧ m.mr.length ≤ 140737488355328 ∧ m.ed.length ≤ 140737488355328
theorem Sep.au {n : Nat} {w0 w : World} {es : List Ent} {m : Au} {p : AuP} (S : Sep n w0 (eAu m p ++ es) w) (hl : Lens m) : Au.At w m p := ⟨S.ints 0 rfl,S.ints 1 rfl,S.eds 2 rfl,hl.1,hl.2.1,hl.2.2⟩
theorem Sep.auCaps {n : Nat} {w0 w : World} {es : List Ent} {m : Au} {p : AuP} (S : Sep n w0 (eAu m p ++ es) w) : Caps m p := ⟨Own.cap (S.get 0 rfl),Own.cap (S.get 1 rfl),Own.cap (S.get 2 rfl)⟩
def GivesBu (a : Au) (c : List Int) (w : World) (e : Ending) (w' : World) : Prop := ∃ m p',e = .returned (m.val p') ∧ Hid (Sep w.heap.size w (eAu m p') w') ∧ Hid (Lens m) ∧ Hid (m.al = a.al ∧ ((a.n = 0 ∧ m = ⟨a.al,0,[],[]⟩) ∨ ∃ fs,Built (clsV c) (outK a fun _ => true) 0 m fs ∧ (∀ v,v ∈ fs → 0 ≤ v ∧ v < a.n) ∧ ∀ d : Nat,(d : Int) ∈ m.mr ↔ ∃ v,fs[d]? = some v ∧ v ∈ a.mr))
set_option maxHeartbeats 8000000 in
theorem merge_min_c (a : Au) (p : AuP) (AC : Option Addr) (cC : Nat) (c : List Int) (w : World) (hr : a.Right) (hc : Caps a p) (hA : Au.At w a p) (hC : IntsAt w AC c) (hl : c.length = a.n.toNat) :
 Calls Try.prog 39 #[a.val p,.slice AC a.n.toNat cC] w (GivesBu a c w) := by
 have h0 := hr.n0
 have hn := hr.n1
 have HM : Hid (∀ x,x ∈ a.mr → 0 ≤ x ∧ x < a.n) := fun x hx => hr.mem hx
 have HR := Lib.hid hr
 have HA := Lib.hid hA
 have HC := Lib.hid hc
 have HCC := Lib.hid hC
 obtain ⟨al,n,mr,ed⟩ := a
 obtain ⟨A1,c1,A2,c2,A3,c3⟩ := p
 obtain ⟨N,rfl⟩ := Int.eq_ofNat_of_zero_le h0
 have hal : al.length ≤ 32 := by
  have := rises_len (n := 32) (l := al) hr.al.incr (fun x hx => by
   obtain ⟨i,hi,rfl⟩ := List.mem_iff_getElem.1 hx
   have := hr.al i _ hi (List.getElem?_eq_getElem hi)
   exact ⟨this.1,this.2.1⟩)
  exact this
 dsimp only at HM hn h0 hl ⊢
 rw [Int.toNat_natCast] at hl ⊢
 have HL := Lib.hid hl
 clear hr hA h0 hc hC hl
 go_enter Try.func39,Try.ntmps39
 go_wp2_with fail
 refine calls_world (fun W => Sep w.heap.size w [eBlk (w.heap.size + 1) 25 [.slice none 0 0,.int .i64 0,.slice none 0 0,.slice none 0 0],eBlk w.heap.size 25 [.slice A1 al.length c1,.int .i64 N,.slice A2 mr.length c2,.slice A3 ed.length c3]] W) ?_ fun W S => ?_
 · exact ((Sep.here w).alloc' _ [_,_,_,_] rfl rfl).alloc' _ [_,_,_,_] rfl (by simp)
 refine (cloneO_c A1 c1 al W (HA.out.al.below IntE.stays S.below) (by omega)).mono ?_
 rintro e w2 ⟨v,rfl,O,hb⟩
 obtain ⟨AL,cL,rfl⟩ := O.out.form
 have S2 : Hid (Sep w.heap.size w [eInts al (.slice AL al.length cL),eBlk (w.heap.size + 1) 25 [.slice none 0 0,.int .i64 0,.slice none 0 0,.slice none 0 0],eBlk w.heap.size 25 [.slice A1 al.length c1,.int .i64 N,.slice A2 mr.length c2,.slice A3 ed.length c3]] w2) := S.newI O.out hb
 have b1 := ckC S2.out 2 rfl 1 rfl
 obtain ⟨b5,h5⟩ : ∃ b5,b5 = w2.heap.size := ⟨_,rfl⟩
 have S3' : Hid (Sep w.heap.size w [eBlk b5 25 [.slice AL al.length cL,.int .i64 0,.slice none 0 0,.slice none 0 0],eInts al (.slice AL al.length cL),eBlk (w.heap.size + 1) 25 [.slice none 0 0,.int .i64 0,.slice none 0 0,.slice none 0 0],eBlk w.heap.size 25 [.slice A1 al.length c1,.int .i64 N,.slice A2 mr.length c2,.slice A3 ed.length c3]] (w2.alloc (.cells #[.slice AL al.length cL,.int .i64 0,.slice none 0 0,.slice none 0 0] 25))) := S2.out.alloc' _ [_,_,_,_] rfl h5
 have b1' := ckC S3'.out 3 rfl 1 rfl
 clear O hb S S2
 by_cases hN : N = 0
 · subst hN
   have r0 := ckC S3'.out 2 rfl 0 rfl
   have r1 := ckC S3'.out 2 rfl 1 rfl
   have r2 := ckC S3'.out 2 rfl 2 rfl
   have r3 := ckC S3'.out 2 rfl 3 rfl
   have q0 := ckC S3'.out 0 rfl 0 rfl
   have q1 := ckC S3'.out 0 rfl 1 rfl
   have q2 := ckC S3'.out 0 rfl 2 rfl
   have q3 := ckC S3'.out 0 rfl 3 rfl
   have s0 := BlkAt.free (S3'.out.get 2 rfl) 0
   have s1 := BlkAt.free (S3'.out.get 2 rfl) 1
   have s2 := BlkAt.free (S3'.out.get 2 rfl) 2
   have s3 := BlkAt.free (S3'.out.get 2 rfl) 3
   rw [h5] at q0 q1 q2 q3
   have S4 : Hid (Sep w.heap.size w [eBlk b5 25 [.slice AL al.length cL,.int .i64 0,.slice none 0 0,.slice none 0 0],eInts al (.slice AL al.length cL),eBlk (w.heap.size + 1) 25 [.slice AL al.length cL,.int .i64 0,.slice none 0 0,.slice none 0 0],eBlk w.heap.size 25 [.slice A1 al.length c1,.int .i64 (0 : Nat),.slice A2 mr.length c2,.slice A3 ed.length c3]] _) := (((S3'.out.set 2 rfl 0 (.slice AL al.length cL)).set 2 rfl 1 (.int .i64 0)).set 2 rfl 2 (.slice none 0 0)).set 2 rfl 3 (.slice none 0 0)
   go_wp2_with fail
   refine bodyPost_ret (v := .agg #[.slice AL al.length cL,.int .i64 0,.slice none 0 0,.slice none 0 0]) (by simp [results,Try.results39,go_sem, *]) rfl ?_
   exact ⟨⟨al,0,[],[]⟩,⟨AL,cL,none,0,none,0⟩,rfl,((S4.out.nilOwn Ed.cells 3 70).nilOwn encI 1 3).pick [3,0,1] (by decide),⟨by show al.length ≤ _; omega,by simp,by simp⟩,rfl,.inl ⟨rfl,rfl⟩⟩
 · have hN0 : 0 < N := by omega
   have hN1 : ((N : Int) == 0) = false := by simp; omega
   go_wp2_with fail
   rw [← h5]
   refine wp_world (fun W => Sep w.heap.size w [eBlk b5 25 [.slice AL al.length cL,.int .i64 0,.slice none 0 0,.slice none 0 0],eInts al (.slice AL al.length cL),eBlk (w.heap.size + 1) 25 [.slice none 0 0,.int .i64 0,.slice none 0 0,.slice none 0 0],eBlk w.heap.size 25 [.slice A1 al.length c1,.int .i64 N,.slice A2 mr.length c2,.slice A3 ed.length c3]] W) S3'.out fun W3 S => ?_
   have S3 := Lib.hid S
   clear S S3' b1 b1' h5
   have S1 := Lib.hid S3.out.drew
   refine wp_region_held_drew (S := (fun V => Sep w.heap.size w [eBlk w.heap.size 25 [.slice A1 al.length c1,.int .i64 N,.slice A2 mr.length c2,.slice A3 ed.length c3]] V)) (by kernel_rfl) ?_ (fun hHeld => ?_)
   · exact S1.out.pick [3] (by decide)
   generalize hwz : W3.drew = w1 at *
   clear hwz
   refine tkH 0 rfl (v := ?_) (by kernel_rfl) ?_ hHeld ?_
   rotate_left
   · intro V hSw
     have b0 := ckC hSw 0 rfl 0 rfl
     have b1 := ckC hSw 0 rfl 1 rfl
     have b2 := ckC hSw 0 rfl 2 rfl
     have b3 := ckC hSw 0 rfl 3 rfl
     clear hSw
     first | (go_simp; done) | (go_simp; with_reducible rfl)
   try simp only [sx]
   refine tkH 2 rfl (v := ?_) (by kernel_rfl) ?_ hHeld ?_
   rotate_left
   · intro V hSw
     have b0 := ckC hSw 0 rfl 0 rfl
     have b1 := ckC hSw 0 rfl 1 rfl
     have b2 := ckC hSw 0 rfl 2 rfl
     have b3 := ckC hSw 0 rfl 3 rfl
     clear hSw
     first | (go_simp; done) | (go_simp; with_reducible rfl)
   try simp only [sx]
   refine rdH 1 rfl fun K hK => ?_
   go_simp
   refine (edges_c ⟨al,N,mr,ed⟩ ⟨A1,c1,A2,c2,A3,c3⟩ w1 HR.out HC.out (HA.out.below S1.out.below)).mono ?_
   rintro e w2 ⟨ge,vs,rfl,T,HV0⟩
   have S2 := ckN S1.out T.out
   have HV := Lib.hid HV0.out
   clear T HV0
   refine hK.out _ _ ?_ (fun hHeld => ?_)
   · exact S2.out.pick [4] (by decide)
   clear hK K
   try simp only [sx]
   refine rdH 3 rfl fun K hK => ?_
   go_simp
   refine (marks_c ⟨al,N,mr,ed⟩ ⟨A1,c1,A2,c2,A3,c3⟩ w2 HM.out (Int.natCast_nonneg _) hn (HA.out.below S2.out.below)).mono ?_
   rintro e w3 ⟨gm,rfl,T⟩
   have S3 := ckN S2.out T.out
   clear T
   refine hK.out _ _ ?_ (fun hHeld => ?_)
   · exact S3.out.pick [5] (by decide)
   clear hK K
   try simp only [sx]
   refine tkP 4 rfl hHeld ?_
   try simp only [sx]
   refine tkP 5 rfl hHeld ?_
   try simp only [sx]
   refine wpAnyH_done (by kernel_rfl) ?_ _
   have S5 : Hid (Sep w.heap.size w [eBlk gm 4 (mkB N fun s => decide ((s : Int) ∈ mr)),eBlk ge 23 vs,eBlk b5 25 [.slice AL al.length cL,.int .i64 0,.slice none 0 0,.slice none 0 0],eInts al (.slice AL al.length cL),eBlk (w.heap.size + 1) 25 [.slice none 0 0,.int .i64 0,.slice none 0 0,.slice none 0 0]] w3) := S3.out.pick [0,1,2,3,4] (by decide)
   obtain ⟨gC,oC,x0,hCe,_,hx0,cc0⟩ := IntsAt.at (HCC.out.below IntE.stays S5.out.below) (show 0 < c.length by rw [HL.out]; exact hN0)
   have HX0 := Lib.hid hx0
   rw [Nat.add_zero] at cc0
   have S6 : Hid (Sep w.heap.size w [eBlk (w3.heap.size + 1) 3 [.int .i64 0],eMap keyI veI w3.heap.size (fun _ => none),eBlk gm 4 (mkB N fun s => decide ((s : Int) ∈ mr)),eBlk ge 23 vs,eBlk b5 25 [.slice AL al.length cL,.int .i64 0,.slice none 0 0,.slice none 0 0],eInts al (.slice AL al.length cL),eBlk (w.heap.size + 1) 25 [.slice none 0 0,.int .i64 0,.slice none 0 0,.slice none 0 0]] ((w3.alloc (.map #[] 0)).alloc (.cells #[.int .i64 0] 3))) := (S5.out.allocMap keyI veI rfl).alloc' _ [_] rfl (by simp)
   have hmm := @run_makeMap Try.prog
   subst hCe
   clear hx0 S3
   go_wp2_with (at_mapUpdate; refine wpList_mapUpdateS rfl (.tmp 29) (.tmp 32) (.const (.int .i64 0)) 97 3 3 rfl S6.out 1 rfl okI Try.underlying97 x0 0 rfl rfl rfl ?_)
   intro w5 S7 _
   have CX : Hid (x0 = clsV c 0) := by
    show x0 = c.getD 0 0
    exact (getD_some HX0.out 0).symm
   simp only [Int.toNat_natCast] at HV
   obtain ⟨nm,hnm⟩ : ∃ nm,nm = w3.heap.size := ⟨_,rfl⟩
   rw [← hnm] at S7 ⊢
   have S8 : Hid (Sep w.heap.size w [eInts [(0 : Int)] (.slice (some ⟨nm + 1,0,none⟩) 1 1),eMap keyI veI nm (idxF ([(0 : Int)].map (clsV c))),eBlk b5 25 [.slice AL al.length cL,.int .i64 0,.slice none 0 0,.slice none 0 0],eInts [] (.slice none 0 0),eEds [] (.slice none 0 0),eInts al (.slice AL al.length cL),eBlk gm 4 (mkB N fun s => decide ((s : Int) ∈ mr)),eBlk ge 23 vs,eBlk (w.heap.size + 1) 25 [.slice none 0 0,.int .i64 0,.slice none 0 0,.slice none 0 0]] w5) := by
    have h1 := (S7.own 0 rfl encI 1 [0] rfl (fun _ => rfl) (by simp [maxLen])).mapAs 1 rfl (idxF ([(0 : Int)].map (clsV c))) (fun y => by
     rw [CX.out]
     unfold idxF
     by_cases e : y = clsV c 0
     · subst e; simp [idxK]
     · simp [e])
    exact ((h1.nilOwn Ed.cells 3 70).nilOwn encI 1 3).pick [2,3,6,0,1,7,4,5,8] (by decide)
   clear S5 S6 S7 hmm cc0 hnm
   go_wp2_with fail
   go_loopw [9,10] (fun v9 vi wr => ∃ (i : Nat) (fs M : List Int) (E : List Ed) (AF : Option Addr) (cF : Nat) (v2 v3 : Value),v9 = .slice AF fs.length cF ∧ vi = .int .i64 i ∧ i ≤ fs.length ∧ fs.length ≤ N ∧ E.length ≤ i * 32 ∧ M.length ≤ i ∧ Hid (Bld (clsV c) (outK ⟨al,N,mr,ed⟩ fun _ => true) 0 i 0 fs E) ∧ Hid (Mks (· ∈ mr) fs i M) ∧ Hid (∀ v,v ∈ fs → 0 ≤ v ∧ v < N) ∧ Hid (Sep w.heap.size w [eInts fs (.slice AF fs.length cF),eMap keyI veI nm (idxF (fs.map (clsV c))),eBlk b5 25 [.slice AL al.length cL,.int .i64 0,v2,v3],eInts M v2,eEds E v3,eInts al (.slice AL al.length cL),eBlk gm 4 (mkB N fun s => decide ((s : Int) ∈ mr)),eBlk ge 23 vs,eBlk (w.heap.size + 1) 25 [.slice none 0 0,.int .i64 0,.slice none 0 0,.slice none 0 0]] wr)) (fun _ vi _ => N + 1 - (intOf vi).toNat)
   case atStart => exact ⟨0,[0],[],[],some ⟨nm + 1,0,none⟩,1,_,_,rfl,rfl,Nat.zero_le _,hN0,Nat.le_refl _,Nat.le_refl _,Bld.start,Mks.start _ _,fun v hv => by simp at hv; subst hv; omega,S8.out⟩
   case round =>
    clear S8
    obtain ⟨i,fs,M,E,AF,cF,v2,v3,rfl,rfl,hi,hfs,hEl,hMl,B,K,RG,S⟩ := hrel
    by_cases hlt : i < fs.length
    · obtain ⟨gf,of,s0,hFe,_,hs0,cf0⟩ := IntsAt.at (S.out.ints 0 rfl) hlt
      subst hFe
      obtain ⟨s,hs⟩ := Int.eq_ofNat_of_zero_le (RG.out s0 (List.mem_of_getElem? hs0)).1
      have hsN : s < N := by have := (RG.out s0 (List.mem_of_getElem? hs0)).2; omega
      rw [hs] at hs0 cf0
      have FS := Lib.hid hs0
      have cm := (BlkAt.cell (S.out.get 6 rfl) s).trans (mkB_get hsN)
      obtain ⟨q,hq⟩ : ∃ q,q = decide ((s : Int) ∈ mr) := ⟨_,rfl⟩
      rw [← hq] at cm
      have HQ := Lib.hid hq
      clear hs0 hs hq
      go_upto_if 45 with fail
      go_cut [45] (fun v wx => ∃ (M' : List Int) (v2 : Value),M'.length ≤ i + 1 ∧ Hid (Mks (· ∈ mr) fs (i + 1) M') ∧ Hid (Sep w.heap.size w [eInts fs (.slice (some ⟨gf,of,none⟩) fs.length cF),eMap keyI veI nm (idxF (fs.map (clsV c))),eBlk b5 25 [.slice AL al.length cL,.int .i64 0,v2,v3],eInts M' v2,eEds E v3,eInts al (.slice AL al.length cL),eBlk gm 4 (mkB N fun s => decide ((s : Int) ∈ mr)),eBlk ge 23 vs,eBlk (w.heap.size + 1) 25 [.slice none 0 0,.int .i64 0,.slice none 0 0,.slice none 0 0]] wx))
      case first =>
       cases q
       case true =>
        have hm : (s : Int) ∈ mr := of_decide_eq_true HQ.out.symm
        have K2 := Lib.hid (K.out.yes FS.out hm)
        have q2 := ckC S.out 2 rfl 2 rfl
        clear cm cf0 hm
        go_wp2_with (at_builtin; refine wpList_pushS rfl _ _ 22 rfl (S.out.alloc 3 [.int .i64 (i : Int)]) 4 rfl Try.underlying22 _ 8 intInfo rfl (by decide) rfl (i : Int) _ rfl rfl (one_cell _ _ [_] _ rfl) (encI_one _) ?_ (by decide) ?_)
        · omega
        intro A5 c5 w6 S9 _
        have S10 : Hid (Sep w.heap.size w [eInts fs (.slice (some ⟨gf,of,none⟩) fs.length cF),eMap keyI veI nm (idxF (fs.map (clsV c))),eBlk b5 25 [.slice AL al.length cL,.int .i64 0,v2,v3],eInts (M ++ [(i : Int)]) (.slice A5 (M ++ [(i : Int)]).length c5),eEds E v3,eInts al (.slice AL al.length cL),eBlk gm 4 (mkB N fun s => decide ((s : Int) ∈ mr)),eBlk ge 23 vs,eBlk (w.heap.size + 1) 25 [.slice none 0 0,.int .i64 0,.slice none 0 0,.slice none 0 0]] w6) := by
         have h := S9.drop1
         rw [show M.length + 1 = (M ++ [(i : Int)]).length by simp] at h
         exact h
        have u2 := ckC S10.out 2 rfl 2 rfl
        have f2 := BlkAt.free (S10.out.get 2 rfl) 2
        have S11 : Hid (Sep w.heap.size w [eInts fs (.slice (some ⟨gf,of,none⟩) fs.length cF),eMap keyI veI nm (idxF (fs.map (clsV c))),eBlk b5 25 [.slice AL al.length cL,.int .i64 0,(.slice A5 (M ++ [(i : Int)]).length c5),v3],eInts (M ++ [(i : Int)]) (.slice A5 (M ++ [(i : Int)]).length c5),eEds E v3,eInts al (.slice AL al.length cL),eBlk gm 4 (mkB N fun s => decide ((s : Int) ∈ mr)),eBlk ge 23 vs,eBlk (w.heap.size + 1) 25 [.slice none 0 0,.int .i64 0,.slice none 0 0,.slice none 0 0]] _) := S10.out.set 2 rfl 2 (.slice A5 (M ++ [(i : Int)]).length c5)
        rw [show (M ++ [(i : Int)]).length = M.length + 1 by simp] at S11
        clear S S9 S10 q2
        go_wp2_with fail
        go_meet
        exact ⟨M ++ [(i : Int)],_,by simp; omega,K2.out,S11.out⟩
       case false =>
        have hm : ¬ (s : Int) ∈ mr := of_decide_eq_false HQ.out.symm
        have K2 := Lib.hid (K.out.no FS.out hm)
        clear cm cf0 hm
        go_wp2_with fail
        go_meet
        exact ⟨M,v2,by omega,K2.out,S.out⟩
      case rest =>
       clear cm cf0 S K hMl
       obtain ⟨M',v2,hMl,K,S⟩ := hcut
       obtain ⟨A,cA,hv,_,hcap⟩ := (HV.out wc (HA.out.ed.below EdE.stays S.out.below)).row s hsN
       obtain ⟨L,hL⟩ : ∃ L,L = outOf ed s := ⟨_,rfl⟩
       rw [← hL] at hv hcap
       have HE : Hid (∀ V,Below w.heap.size w V → EdsAt V A L) := fun V hb => by
        obtain ⟨A',c',h1,h2,_⟩ := (HV.out V (HA.out.ed.below EdE.stays hb)).row s hsN
        rw [← hL] at h1 h2
        rw [hv] at h1; cases h1
        exact h2
       have hL32 : L.length ≤ 32 := by rw [hL]; exact outOf_32 HR.out s
       have HX : Hid (∀ x,x ∈ L → (0 ≤ x.ev ∧ x.ev < 32) ∧ 0 ≤ x.dst ∧ x.dst < N) := fun x hx => by
        rw [hL] at hx
        have hm := (mem_outOf.1 hx).1
        have := edge_next HR.out hm
        exact ⟨HR.out.ev hm,this.2.2.2.1,this.2.2.2.2⟩
       have HO : Hid (∀ (q : Nat) x,L[q]? = some x → (outK ⟨al,N,mr,ed⟩ (fun _ => true) s)[q]? = some (x.ev,x.dst)) := fun q x hx => by
        rw [outK_get]; simp only [Int.toNat_natCast]; rw [← hL,hx]; rfl
       have HOL : Hid ((outK ⟨al,N,mr,ed⟩ (fun _ => true) s).length = L.length) := by
        rw [Hid,outK_len]; simp only [Int.toNat_natCast]; rw [← hL]
       obtain ⟨y0,hy0,cf0⟩ := IntsAt.more (S.out.ints 0 rfl) hlt
       rw [FS.out] at hy0; cases hy0
       have ce := (BlkAt.cell (S.out.get 7 rfl) s).trans hv
       clear hL hv
       go_wp2_with fail
       go_loopw [9,60] (fun v9 vt wr => ∃ (t : Nat) (fs' : List Int) (E' : List Ed) (AF' : Option Addr) (cF' : Nat) (v3' : Value),v9 = .slice AF' fs'.length cF' ∧ vt = .int .i64 t ∧ t ≤ L.length ∧ i < fs'.length ∧ fs'.length ≤ N ∧ E'.length ≤ i * 32 + t ∧ Hid (Bld (clsV c) (outK ⟨al,N,mr,ed⟩ fun _ => true) 0 i t fs' E') ∧ Hid (fs'[i]? = some (s : Int)) ∧ Hid (Mks (· ∈ mr) fs' (i + 1) M') ∧ Hid (∀ v,v ∈ fs' → 0 ≤ v ∧ v < N) ∧ Hid (Sep w.heap.size w [eInts fs' (.slice AF' fs'.length cF'),eMap keyI veI nm (idxF (fs'.map (clsV c))),eBlk b5 25 [.slice AL al.length cL,.int .i64 0,v2,v3'],eInts M' v2,eEds E' v3',eInts al (.slice AL al.length cL),eBlk gm 4 (mkB N fun s => decide ((s : Int) ∈ mr)),eBlk ge 23 vs,eBlk (w.heap.size + 1) 25 [.slice none 0 0,.int .i64 0,.slice none 0 0,.slice none 0 0]] wr)) (fun _ vt _ => L.length - (intOf vt).toNat)
       case atStart => exact ⟨0,fs,E,some ⟨gf,of,none⟩,cF,v3,rfl,rfl,Nat.zero_le _,hlt,hfs,by omega,B.out,FS.out,K.out,RG.out,S.out⟩
       case round =>
        clear S B FS K RG cf0 ce hEl hfs hi hlt
        obtain ⟨t,fs',E',AF',cF',v3',rfl,rfl,ht,hif,hfs,hEl,B,FS,K,RG,S⟩ := hrel
        by_cases hlt2 : t < L.length
        · obtain ⟨b,off,x,hAe,hb,hx,y0,y1,y2⟩ := EdsAt.at (HE.out wr S.out.below) hlt2
          subst hAe
          obtain ⟨⟨e0,e1⟩,d0,d1⟩ := HX.out x (List.mem_of_getElem? hx)
          have OX := Lib.hid (HO.out t x hx)
          obtain ⟨d,hd⟩ := Int.eq_ofNat_of_zero_le d0
          obtain ⟨ye,hye⟩ : ∃ z,z = x.ev := ⟨_,rfl⟩
          obtain ⟨ys,hys⟩ : ∃ z,z = x.src := ⟨_,rfl⟩
          rw [← hye] at y1 e0 e1 OX
          rw [← hys] at y0
          rw [hd] at y2 d1 OX
          obtain ⟨z,hz,_⟩ := IntsAt.more (HCC.out.below IntE.stays S.out.below) (k := d) (by rw [HL.out]; omega)
          have HZ := Lib.hid hz
          have HZC : Hid (clsV c d = z) := by
           unfold Hid clsV
           rw [Int.toNat_natCast]
           exact getD_some hz 0
          clear hx d0 hye hys hd hz hb
          go_upto_region 16 with fail
          refine wp_world (fun W => ∃ bx,bx = wr.heap.size ∧ Sep w.heap.size w (eBlk bx 70 [.int .i64 ys,.int .i64 ye,.int .i64 (d : Int)] :: [eInts fs' (.slice AF' fs'.length cF'),eMap keyI veI nm (idxF (fs'.map (clsV c))),eBlk b5 25 [.slice AL al.length cL,.int .i64 0,v2,v3'],eInts M' v2,eEds E' v3',eInts al (.slice AL al.length cL),eBlk gm 4 (mkB N fun s => decide ((s : Int) ∈ mr)),eBlk ge 23 vs,eBlk (w.heap.size + 1) 25 [.slice none 0 0,.int .i64 0,.slice none 0 0,.slice none 0 0]]) W) ⟨_,rfl,S.out.alloc' _ [_,_,_] rfl rfl⟩ fun W S' => ?_
          obtain ⟨bx,hbx,S'⟩ := S'
          rw [← hbx]
          have S3 := Lib.hid S'
          clear S' hbx S y0 y1 y2
          have bx1 := ckC S3.out 0 rfl 1 rfl
          have bx2 := ckC S3.out 0 rfl 2 rfl
          obtain ⟨z',hz',cz⟩ := IntsAt.more (HCC.out.below IntE.stays S3.out.below) (k := d) (by rw [HL.out]; omega)
          rw [HZ.out] at hz'; cases hz'
          have hlk := (MapG.look okI Try.underlying97 zeroI (S3.out.get 2 rfl) z).1
          have q3 := ckC S3.out 3 rfl 3 rfl
          have q3f := BlkAt.free (S3.out.get 3 rfl) 3
          by_cases hm : z ∈ fs'.map (clsV c)
          · obtain ⟨j,hj⟩ : ∃ j,j = idxK (fs'.map (clsV c)) z := ⟨_,rfl⟩
            have B2 : Hid (Bld (clsV c) (outK ⟨al,N,mr,ed⟩ fun _ => true) 0 i (t + 1) fs' (E' ++ [⟨i,ye,j⟩])) := by
             have hg := idxK_get hm
             rw [← hj,List.getElem?_map,Option.map_eq_some_iff] at hg
             obtain ⟨u,hu,huz⟩ := hg
             exact B.out.old FS.out (outK_ups HR.out _ _) OX.out hu (huz.trans HZC.out.symm)
            have hjn : j < fs'.length := by rw [hj]; simpa using idxK_lt hm
            have e1' : idxF (fs'.map (clsV c)) z = some (j : Int) := by rw [idxF,if_pos hm,hj]
            rw [e1'] at hlk
            simp only [Option.getD_some,Option.isSome_some,keyI,veI] at hlk
            clear hm hj e1'
            go_wp2_with (at_builtin; refine wpList_pushS rfl _ _ 23 rfl (S3.out.alloc 70 [.int .i64 (i : Int),.int .i64 ye,.int .i64 (j : Int)]) 6 rfl Try.underlying23 _ 24 edInfo rfl (by decide) rfl (⟨i,ye,j⟩ : Ed) _ rfl rfl (one_cell _ _ [_,_,_] _ rfl) (edOne _) ?_ (by decide) ?_)
            · omega
            intro A5 c5 w6 S9 _
            have S10 : Hid (Sep w.heap.size w ([eInts fs' (.slice AF' fs'.length cF'),eMap keyI veI nm (idxF (fs'.map (clsV c))),eBlk b5 25 [.slice AL al.length cL,.int .i64 0,v2,v3'],eInts M' v2,eEds (E' ++ [(⟨i,ye,j⟩ : Ed)])  (.slice A5 (E' ++ [(⟨i,ye,j⟩ : Ed)]).length c5),eInts al (.slice AL al.length cL),eBlk gm 4 (mkB N fun s => decide ((s : Int) ∈ mr)),eBlk ge 23 vs,eBlk (w.heap.size + 1) 25 [.slice none 0 0,.int .i64 0,.slice none 0 0,.slice none 0 0]]) w6) := by
             have h := S9.drop1
             rw [show E'.length + 1 = (E' ++ [(⟨i,ye,j⟩ : Ed)]).length by simp] at h
             exact h.drop1
            have u3 := ckC S10.out 2 rfl 3 rfl
            have f3 := BlkAt.free (S10.out.get 2 rfl) 3
            have S11 : Hid (Sep w.heap.size w ([eInts fs' (.slice AF' fs'.length cF'),eMap keyI veI nm (idxF (fs'.map (clsV c))),eBlk b5 25 [.slice AL al.length cL,.int .i64 0,v2,(.slice A5 (E' ++ [(⟨i,ye,j⟩ : Ed)]).length c5)],eInts M' v2,eEds (E' ++ [(⟨i,ye,j⟩ : Ed)])  (.slice A5 (E' ++ [(⟨i,ye,j⟩ : Ed)]).length c5),eInts al (.slice AL al.length cL),eBlk gm 4 (mkB N fun s => decide ((s : Int) ∈ mr)),eBlk ge 23 vs,eBlk (w.heap.size + 1) 25 [.slice none 0 0,.int .i64 0,.slice none 0 0,.slice none 0 0]]) _) := S10.out.set 2 rfl 3 (.slice A5 (E' ++ [(⟨i,ye,j⟩ : Ed)]).length c5)
            rw [show (E' ++ [(⟨i,ye,j⟩ : Ed)]).length = E'.length + 1 by simp] at S11
            clear S3 S9 S10 q3 q3f bx1 bx2 cz hlk B
            go_wp2_with fail
            go_roundw
            case rel => exact ⟨t + 1,fs',(E' ++ [(⟨(i : Int),ye,(j : Int)⟩ : Ed)]),AF',cF',.slice A5 (E'.length + 1) c5,rfl,by go_num,by omega,hif,hfs,by simp; omega,B2.out,FS.out,K.out,RG.out,S11.out⟩
            case measure => simp [intOf]; omega
          · have B2 : Hid (Bld (clsV c) (outK ⟨al,N,mr,ed⟩ fun _ => true) 0 i (t + 1) (fs' ++ [(d : Int)]) (E' ++ [⟨i,ye,fs'.length⟩])) := B.out.new FS.out (outK_ups HR.out _ _) OX.out (fun u hu he => hm (List.mem_map.2 ⟨u,hu,he.trans HZC.out⟩))
            have RG2 : Hid (∀ v,v ∈ fs' ++ [(d : Int)] → 0 ≤ v ∧ v < N) := fun v hv => by
             rcases List.mem_append.1 hv with g | g
             · exact RG.out v g
             · rw [List.mem_singleton.1 g]; omega
            have hfn : (fs' ++ [(d : Int)]).length ≤ N := B2.out.len RG2.out
            have K2 := Lib.hid (K.out.grow (by omega) (d : Int))
            have FS2 : Hid ((fs' ++ [(d : Int)])[i]? = some (s : Int)) := get_keep FS.out _
            have e1' : idxF (fs'.map (clsV c)) z = none := by rw [idxF,if_neg hm]
            rw [e1'] at hlk
            simp only [Option.getD_none,Option.isSome_none,keyI,veI] at hlk
            have HMZ := Lib.hid hm
            clear hm e1'
            go_wp2_with (at_mapUpdate; refine wpList_mapUpdateS rfl (.tmp 78) (.tmp 83) (.tmp 84) 97 3 3 rfl S3.out 2 rfl okI Try.underlying97 z (fs'.length : Int) rfl rfl rfl ?_)
            intro w4 S4' _
            have S4 : Hid (Sep w.heap.size w (eBlk bx 70 [.int .i64 ys,.int .i64 ye,.int .i64 (d : Int)] :: [eInts fs' (.slice AF' fs'.length cF'),eMap keyI veI nm (idxF (fs'.map (clsV c) ++ [clsV c (d : Int)])),eBlk b5 25 [.slice AL al.length cL,.int .i64 0,v2,v3'],eInts M' v2,eEds E' v3',eInts al (.slice AL al.length cL),eBlk gm 4 (mkB N fun s => decide ((s : Int) ∈ mr)),eBlk ge 23 vs,eBlk (w.heap.size + 1) 25 [.slice none 0 0,.int .i64 0,.slice none 0 0,.slice none 0 0]]) w4) := by
             have h := S4'.mapAs 2 rfl (idxF (fs'.map (clsV c) ++ [clsV c (d : Int)])) (fun y => by
              rw [HZC.out,idxF_push HMZ.out,List.length_map])
             exact h
            clear S4' S3 bx1 bx2 cz hlk q3 q3f
            have bx1 := ckC S4.out 0 rfl 1 rfl
            have bx2 := ckC S4.out 0 rfl 2 rfl
            go_wp2_with (at_builtin; refine wpList_pushS rfl _ _ 22 rfl (S4.out.alloc 3 [.int .i64 (d : Int)]) 2 rfl Try.underlying22 _ 8 intInfo rfl (by decide) rfl (d : Int) _ rfl rfl (one_cell _ _ [_] _ rfl) (encI_one _) ?_ (by decide) ?_)
            · omega
            intro A4 c4 w5 S5' _
            have S5 : Hid (Sep w.heap.size w (eBlk bx 70 [.int .i64 ys,.int .i64 ye,.int .i64 (d : Int)] :: [eInts (fs' ++ [(d : Int)]) (.slice A4 (fs'.length + 1) c4),eMap keyI veI nm (idxF (fs'.map (clsV c) ++ [clsV c (d : Int)])),eBlk b5 25 [.slice AL al.length cL,.int .i64 0,v2,v3'],eInts M' v2,eEds E' v3',eInts al (.slice AL al.length cL),eBlk gm 4 (mkB N fun s => decide ((s : Int) ∈ mr)),eBlk ge 23 vs,eBlk (w.heap.size + 1) 25 [.slice none 0 0,.int .i64 0,.slice none 0 0,.slice none 0 0]]) w5) := by
             exact S5'.drop1
            clear S5' S4 bx1 bx2
            have bx1 := ckC S5.out 0 rfl 1 rfl
            have bx2 := ckC S5.out 0 rfl 2 rfl
            have q3 := ckC S5.out 3 rfl 3 rfl
            go_wp2_with (at_builtin; refine wpList_pushS rfl _ _ 23 rfl (S5.out.alloc 70 [.int .i64 (i : Int),.int .i64 ye,.int .i64 (fs'.length : Int)]) 6 rfl Try.underlying23 _ 24 edInfo rfl (by decide) rfl (⟨i,ye,fs'.length⟩ : Ed) _ rfl rfl (one_cell _ _ [_,_,_] _ rfl) (edOne _) ?_ (by decide) ?_)
            · omega
            intro A5 c5 w6 S9 _
            have S10 : Hid (Sep w.heap.size w ([eInts (fs' ++ [(d : Int)]) (.slice A4 (fs'.length + 1) c4),eMap keyI veI nm (idxF (fs'.map (clsV c) ++ [clsV c (d : Int)])),eBlk b5 25 [.slice AL al.length cL,.int .i64 0,v2,v3'],eInts M' v2,eEds (E' ++ [(⟨i,ye,fs'.length⟩ : Ed)])  (.slice A5 (E' ++ [(⟨i,ye,fs'.length⟩ : Ed)]).length c5),eInts al (.slice AL al.length cL),eBlk gm 4 (mkB N fun s => decide ((s : Int) ∈ mr)),eBlk ge 23 vs,eBlk (w.heap.size + 1) 25 [.slice none 0 0,.int .i64 0,.slice none 0 0,.slice none 0 0]]) w6) := by
             have h := S9.drop1
             rw [show E'.length + 1 = (E' ++ [(⟨i,ye,fs'.length⟩ : Ed)]).length by simp] at h
             exact h.drop1
            have u3 := ckC S10.out 2 rfl 3 rfl
            have f3 := BlkAt.free (S10.out.get 2 rfl) 3
            have S11' := S10.out.set 2 rfl 3 (.slice A5 (E' ++ [(⟨i,ye,fs'.length⟩ : Ed)]).length c5)
            rw [show (E' ++ [(⟨i,ye,fs'.length⟩ : Ed)]).length = E'.length + 1 by simp,show fs'.length + 1 = (fs' ++ [(d : Int)]).length by simp,show fs'.map (clsV c) ++ [clsV c (d : Int)] = (fs' ++ [(d : Int)]).map (clsV c) by simp] at S11'
            have S11 := Lib.hid S11'
            clear S11'
            clear S5 S9 S10 q3 bx1 bx2 B
            go_wp2_with fail
            go_roundw
            case rel => exact ⟨t + 1,fs' ++ [(d : Int)],(E' ++ [(⟨(i : Int),ye,(fs'.length : Int)⟩ : Ed)]),A4,c4,.slice A5 (E'.length + 1) c5,by simp,by go_num,by omega,by simp; omega,hfn,by simp; omega,B2.out,FS2.out,K2.out,RG2.out,S11.out⟩
            case measure => simp [intOf]; omega
        · obtain rfl : t = L.length := by omega
          have B2 : Hid (Bld (clsV c) (outK ⟨al,N,mr,ed⟩ fun _ => true) 0 (i + 1) 0 fs' E') := Bld.next (by rw [HOL.out]; exact B.out) FS.out
          clear B
          go_wp2_with fail
          go_roundw
          case rel => exact ⟨i + 1,fs',M',E',AF',cF',v2,v3',rfl,by go_num,by omega,hfs,by omega,by omega,B2.out,K.out,RG.out,S.out⟩
          case measure => simp [intOf]; omega
    · obtain rfl : i = fs.length := by omega
      obtain ⟨AM,cM,hv2⟩ := S.out.form 3 rfl
      obtain ⟨AX,cX,hv3⟩ := S.out.form 4 rfl
      subst hv2; subst hv3
      have u1 := ckC S.out 2 rfl 1 rfl
      have f1 := BlkAt.free (S.out.get 2 rfl) 1
      go_upto_region 24 with fail
      have S2' := S.out.set 2 rfl 1 (.int .i64 (fs.length : Int))
      refine wp_world (fun W => Sep w.heap.size w [eInts fs (.slice AF fs.length cF),eMap keyI veI nm (idxF (fs.map (clsV c))),eBlk b5 25 [.slice AL al.length cL,.int .i64 (fs.length : Int),.slice AM M.length cM,.slice AX E.length cX],eInts M (.slice AM M.length cM),eEds E (.slice AX E.length cX),eInts al (.slice AL al.length cL),eBlk gm 4 (mkB N fun s => decide ((s : Int) ∈ mr)),eBlk ge 23 vs,eBlk (w.heap.size + 1) 25 [.slice none 0 0,.int .i64 0,.slice none 0 0,.slice none 0 0]] W) S2' fun W S2' => ?_
      have S2 := Lib.hid S2'
      clear S2' S u1 f1
      have r0 := ckC S2.out 8 rfl 0 rfl
      have r1 := ckC S2.out 8 rfl 1 rfl
      have r2 := ckC S2.out 8 rfl 2 rfl
      have r3 := ckC S2.out 8 rfl 3 rfl
      have q0 := ckC S2.out 2 rfl 0 rfl
      have q1 := ckC S2.out 2 rfl 1 rfl
      have q2 := ckC S2.out 2 rfl 2 rfl
      have q3 := ckC S2.out 2 rfl 3 rfl
      have s0 := BlkAt.free (S2.out.get 8 rfl) 0
      have s1 := BlkAt.free (S2.out.get 8 rfl) 1
      have s2 := BlkAt.free (S2.out.get 8 rfl) 2
      have s3 := BlkAt.free (S2.out.get 8 rfl) 3
      have S4 := Lib.hid ((((S2.out.set 8 rfl 0 (.slice AL al.length cL)).set 8 rfl 1 (.int .i64 (fs.length : Int))).set 8 rfl 2 (.slice AM M.length cM)).set 8 rfl 3 (.slice AX E.length cX))
      have FIN : Hid (Built (clsV c) (outK ⟨al,N,mr,ed⟩ fun _ => true) 0 ⟨al,fs.length,M,E⟩ fs) := B.out.built (Nat.le_refl _) al M HR.out.al (by omega) K.out.set (fun v hv x hx => by
       obtain ⟨e',t'⟩ := x
       obtain ⟨g1,g2,_⟩ := (mem_outK HR.out (RG.out v hv).1).1 hx
       rcases HR.out.next_cases v e' with g | ⟨_,_,x,hx,x1,x2,x3⟩
       · omega
       · obtain ⟨p,hp,hpx⟩ := List.mem_iff_getElem.1 hx
         have := (HR.out.edge (p := p) (by rw [List.getElem?_eq_getElem hp,hpx])).2.2.2.2
         rw [x2] at this
         exact this) (fun v _ => outK_ups HR.out _ v)
      have MK := Lib.hid K.out.fin
      have hmn : E.length ≤ 131072 := by omega
      go_wp2_with fail
      refine bodyPost_ret (v := .agg #[.slice AL al.length cL,.int .i64 (fs.length : Int),.slice AM M.length cM,.slice AX E.length cX]) (by simp [results,Try.results39,go_sem, *]) rfl ?_
      exact ⟨⟨al,fs.length,M,E⟩,⟨AL,cL,AM,cM,AX,cX⟩,rfl,S4.out.pick [5,3,4] (by decide),⟨by show al.length ≤ _; omega,by show M.length ≤ _; omega,by show E.length ≤ _; omega⟩,rfl,.inr ⟨fs,FIN.out,RG.out,MK.out⟩⟩
theorem app_none (t ty e : TypeId) (i : TypeInfo) (z : Value) (P : Program) (ht : P.underlying t = some (.slice e)) (hi : P.info? e = some i) (hz : i.zero = some z) (A : Option Addr) (n c c' : Nat) (w : World) (h : A = none → n = 0) (hle : n ≤ c) :
 (Builtin.append_ #[t,t] ty #[.slice A n c,.slice none 0 c']).run P w = .ok (.slice A n c) w := by
 cases A with
 | none => obtain rfl := h rfl; simp [Builtin.append_,run_underlying ht,sizeOf,typeInfo,zeroValue,hi,hz,Builtin.lenOf,run_firstCells_none]
 | some a => simp [Builtin.append_,run_underlying ht,sizeOf,typeInfo,zeroValue,hi,hz,Builtin.lenOf,run_firstCells_none,hle,storeCells]
theorem OwnI.nil0 {B : Nat} {l : List Int} {c : Nat} {w : World} (h : OwnI B l (.slice none l.length c) w) : l = [] := by
 rcases h.2 with ⟨_,h2⟩ | ⟨g,cap,cur,h1,_⟩
 · exact List.eq_nil_of_length_eq_zero h2
 · cases h1
theorem IntsAt.nil0 {w : World} {l : List Int} (h : IntsAt w none l) : l = [] := by
 cases l with
 | nil => rfl
 | cons x l => obtain ⟨b,off,h1,_⟩ := h (by simp); cases h1
theorem wpList_appendIn {P : Program} {n : Nat} {w0 w : World} {es : List Ent} {ops : Array Oper} {rest : List Oper} {o : Oper} {a : Act} {Q : Exit → Act → World → Prop} (hgd : o.guard = none) (s x : Operand) (t : TypeId)
 (ho : o.op = .call { callee := .builtin .append,args := #[s,x],argTypes := #[t,t] }) (S : Sep n w0 es w) (i : Nat) {l : List Int} {v : Value} (hei : es[i]? = some (eInts l v))
 (ht : P.underlying t = some (.slice 3)) (hi : (P.info? 3).map (fun i => (i.zero,i.size,i.bytes)) = some (some (.int .i64 0),1,8))
 (hs : a.eval s = v) (A : Option Addr) (c : Nat) (b : List Int) (hx : a.eval x = .slice A b.length c) (hB : IntsAt w A b) (hl : l.length + b.length ≤ 1048577)
 (h : ∀ A' c' w',Sep n w0 (es.set i (eInts (l ++ b) (.slice A' (l.length + b.length) c'))) w' → Off v.ownBlock.toList w w' → wpList P ops Q rest (a.put o.dst (.slice A' (l.length + b.length) c')) w') :
 wpList P ops Q (o :: rest) a w := by
 obtain ⟨i0,hi0,hz,hsize,hb⟩ := info_parts hi
 have own := S.get i hei
 cases A with
 | none =>
   obtain rfl := hB.nil0
   obtain ⟨A',c',rfl⟩ := Own.form own
   refine wpList_plain hgd fun K hK => ?_
   have hr := app_none t o.type 3 i0 (.int .i64 0) P ht hi0 hz A' l.length c' c w (fun e => by subst e; rw [OwnI.nil0 own]; rfl) (Own.cap own)
   unfold Oper.wp execOp
   simp only [ho,resolve,invoke,builtin,Sem.run_bind,Sem.run_pure,Result.andThen_ok,List.map_toArray,List.map_cons,List.map_nil,hs,hx,List.length_nil,hr]
   exact hK _ _ (h A' c' w (S.as i hei _ (fun g => by rw [List.append_nil]; exact g) (fun _ g => g)) ⟨rfl,rfl,rfl,Nat.le_refl _,fun _ _ _ => rfl⟩)
 | some ad =>
   refine wpList_append_own_at w hgd s x t ho 0 3 i0 (.int .i64 0) 1 8 ht hi0 hz hsize hb rfl (by decide) v l.length (l.flatMap encI) hs own ad b.length c (b.flatMap encI) hx (by rw [flat_encI]; simp) (fun j u hj => ?_) (fun u hu => ?_) (by simp only [maxLen]; omega) (by omega) (Nat.zero_le _) fun v' w' ho' hg _ hat => ?_
   · rw [flat_encI] at hj; exact IntsAt.cells hB j u hj
   · rw [flat_encI] at hu; obtain ⟨y,_,rfl⟩ := List.mem_map.1 hu; rfl
   · obtain ⟨A',c',rfl⟩ := own_form ho'
     refine h A' c' w' (S.chg i hei _ (Off.grown hg) ?_ (fun g hg => ?_)) (Off.grown hg)
     · show Own encI 1 3 0 (l ++ b) _ w'
       unfold Own; rw [List.flatMap_append,List.length_append]; exact ho'
     · simp only [eOwn,Option.mem_toList] at hg ⊢
       rcases hat with h | h
       · exact .inl (by rw [← h]; exact hg)
       · rw [h] at hg; cases hg; exact .inr (Nat.le_refl _)
theorem Sep.ownAt {n : Nat} {w0 w : World} {es : List Ent} {l : List Int} {v : Value} (S : Sep n w0 es w) (i : Nat) (hi : es[i]? = some (eInts l v)) : OwnI n l v w := by
 have h := S.get i hi
 refine ⟨h.1,?_⟩
 rcases h.2 with h2 | ⟨g,cap,cur,r1,r2,r3⟩
 · exact .inl h2
 · exact .inr ⟨g,cap,cur,r1,S.ge _ (List.mem_of_getElem? hi) g (by simp [eOwn,r1,Value.ownBlock]),r3⟩
set_option maxHeartbeats 1000000 in
theorem union_c (A1 A2 : Option Addr) (c1 c2 : Nat) (a b : List Int) (w : World) (h1 : IntsAt w A1 a) (h2 : IntsAt w A2 b) (n1 : a.length ≤ 1000) (n2 : b.length ≤ 1000) :
 Calls Try.prog 66 #[.slice A1 a.length c1,.slice A2 b.length c2] w (GivesI (unionS a b) w) := by
 have H1 := Lib.hid h1
 have H2 := Lib.hid h2
 clear h1 h2
 go_enter Try.func66,Try.ntmps66
 go_wp2_with fail
 refine (cloneO_c A1 c1 a w H1.out (by omega)).mono ?_
 rintro e w1 ⟨v,rfl,O,hb⟩
 obtain ⟨AA,cA,rfl⟩ := O.out.form
 have S1 : Hid (Sep w.heap.size w [eInts a (.slice AA a.length cA)] w1) := (Sep.here w).newI O.out hb
 have HB2 := Lib.hid (H2.out.below IntE.stays hb)
 clear O hb
 go_wp2_with (at_builtin; refine wpList_appendIn rfl _ _ 22 rfl S1.out 0 rfl Try.underlying22 (by kernel_rfl) rfl A2 c2 b rfl HB2.out (by omega) ?_; intro AB cB w2 S2 _)
 obtain ⟨ab,hab⟩ : ∃ l,l = a ++ b := ⟨_,rfl⟩
 have hL : a.length + b.length = ab.length := by rw [hab,List.length_append]
 have hU : unionS a b = cmpV (sortV ab) := by rw [hab]; rfl
 have hM : ab.length ≤ 1048577 := by omega
 rw [← hab,hL] at S2
 rw [hL]
 have SH2 := Lib.hid S2
 have CM : Hid (∀ w3,OwnI 0 (sortV ab) (.slice AB ab.length cB) w3 → Calls Try.prog 79 #[.slice AB ab.length cB] w3 (GivesCm AB cB (sortV ab) w3)) := fun w3 ho => by
  have := compact_c AB cB (sortV ab) w3 (by rw [sortV_len]; exact ho) (by rw [sortV_len]; exact hM)
  rw [sortV_len] at this
  exact this
 have HM := Lib.hid hM
 obtain ⟨sv,hsv⟩ : ∃ l,l = sortV ab := ⟨_,rfl⟩
 have hsl : Hid (sv.length = ab.length) := by rw [hsv]; exact sortV_len ab
 have CS := Lib.hid (sort_c AB cB ab w2 (SH2.out.get 0 rfl) HM.out)
 rw [← hsv] at CM
 skip
 have HSV := Lib.hid hsv
 have HU : Hid (unionS a b = cmpV sv) := by rw [hsv]; exact hU
 clear S2 hM hsv hab hL hU H1 H2 HB2 S1
 go_wp2_with fail
 refine CS.out.mono ?_
 rintro e w3 ⟨rfl,ho,hoff⟩
 rw [← HSV.out] at ho
 have S3 : Hid (Sep w.heap.size w [eInts sv (.slice AB ab.length cB)] w3) := SH2.out.chg 0 rfl _ hoff ho (fun g hg => .inl hg)
 clear ho hoff CS SH2
 go_wp2_with fail
 refine (CM.out w3 (S3.out.get 0 rfl)).mono ?_
 rintro e w4 ⟨rfl,ho,hoff⟩
 have S4 : Hid (Sep w.heap.size w [eInts (cmpV sv) (.slice AB (cmpV sv).length cB)] w4) := S3.out.chg 0 rfl _ (by rw [hsl.out] at hoff; exact hoff) ho (fun g hg => .inl (by cases AB <;> exact hg))
 clear ho hoff CM
 go_wp2_with fail
 refine bodyPost_ret (v := .slice AB (cmpV sv).length cB) (by simp [results,Try.results66,go_sem]) rfl ?_
 exact ⟨_,rfl,by rw [HU.out]; exact S4.out.ownAt 0 rfl,S4.out.below⟩
def EvUp (l : List Ed) : Prop := l.Pairwise fun x y => x.ev ≤ y.ev
theorem step1_c (x : Ed) (s : Int) (w : World) (h0 : -1000000 ≤ x.ev) (h1 : x.ev ≤ 1000000) (h2 : -1000000 ≤ s) (h3 : s ≤ 1000000) :
 Calls Try.prog 81 #[.agg #[.int .i64 x.src,.int .i64 x.ev,.int .i64 x.dst],.int .i64 s] w (Ret (.int .i64 (x.ev - s)) w) := by
 have hw : IntKind.i64.wrap (x.ev - s) = x.ev - s := IntWalk.i64_in _ (by omega)
 have B := Lib.hid (Below.new w (.cells #[.int .i64 x.src,.int .i64 x.ev,.int .i64 x.dst] 70))
 have q0 : (w.alloc (.cells #[.int .i64 x.src,.int .i64 x.ev,.int .i64 x.dst] 70)).cell? ⟨w.heap.size,1,none⟩ = some (.int .i64 x.ev) := new_cell w _ [_,_,_] _ 1 rfl
 go_enter Try.func81,Try.ntmps81
 go_wp2
 go_ret
 exact ⟨rfl,B.out⟩
def DistV (F : FuncId) : Prop := ∀ (x : Ed) (s : Int) (w : World),-1000000 ≤ x.ev → x.ev ≤ 1000000 → -1000000 ≤ s → s ≤ 1000000 → Calls Try.prog F #[.agg #[.int .i64 x.src,.int .i64 x.ev,.int .i64 x.dst],.int .i64 s] w (Ret (.int .i64 (x.ev - s)) w)
def FindsV (l : List Ed) (s : Int) (w : World) (e : Ending) (w' : World) : Prop := ∃ (p : Nat) (r : Bool),e = .returned (.tuple #[.int .i64 (p : Int),.bool r]) ∧ p ≤ l.length ∧ Hid ((∀ t y,t < p → l[t]? = some y → y.ev < s) ∧ (∀ t y,p ≤ t → l[t]? = some y → s ≤ y.ev)) ∧ Hid ((r = true ∧ ∃ x,l[p]? = some x ∧ x.ev = s) ∨ (r = false ∧ ∀ x,l[p]? = some x → x.ev ≠ s)) ∧ Below w.heap.size w w'
set_option maxHeartbeats 2000000 in
theorem bse_c (A : Option Addr) (c : Nat) (l : List Ed) (s : Int) (F : FuncId) (w : World) (h : EdsAt w A l) (hl : l.length ≤ 1000000) (hs : EvUp l) (hr : ∀ x,x ∈ l → -1000000 ≤ x.ev ∧ x.ev ≤ 1000000) (h2 : -1000000 ≤ s) (h3 : s ≤ 1000000) (hF : DistV F) (ec : ∀ args w,(callFunc F args).run Try.prog w = .ok (.enter F args) w) :
 Calls Try.prog 80 #[.slice A l.length c,.int .i64 s,.func (.func F) #[] #[]] w (FindsV l s w) := by
 have H := Lib.hid h
 have HF := Lib.hid hF
 have HS : Hid (∀ (i j : Nat) x y,i ≤ j → l[i]? = some x → l[j]? = some y → x.ev ≤ y.ev) := fun i j x y hij hx hy => by
  rcases Nat.lt_or_eq_of_le hij with e | e
  · obtain ⟨hi,rfl⟩ := List.getElem?_eq_some_iff.1 hx
    obtain ⟨hj,rfl⟩ := List.getElem?_eq_some_iff.1 hy
    exact List.pairwise_iff_getElem.1 hs i j hi hj e
  · subst e; rw [hx] at hy; cases hy; exact Int.le_refl _
 have HRG := Lib.hid hr
 clear h hF hs hr
 go_enter Try.func80,Try.ntmps80
 go_wp2_with fail
 go_loopw [9,10,11] (fun a b _ wr => ∃ lo hi : Nat,a = .int .i64 (lo : Int) ∧ b = .int .i64 (hi : Int) ∧ lo ≤ hi ∧ hi ≤ l.length ∧ Hid ((∀ t y,t < lo → l[t]? = some y → y.ev < s) ∧ (∀ t y,hi ≤ t → l[t]? = some y → s ≤ y.ev)) ∧ Hid (Fro w.heap.size w wr)) (fun a b _ _ => (intOf b).toNat - (intOf a).toNat)
 case atStart => exact ⟨0,l.length,rfl,rfl,Nat.zero_le _,Nat.le_refl _,⟨fun t y ht => absurd ht (Nat.not_lt_zero _),fun t y h1 h2 => by have := (List.getElem?_eq_some_iff.1 h2).1; omega⟩,Fro.here w⟩
 case round =>
  obtain ⟨lo,hi,rfl,rfl,hlh,hin,HB,W0⟩ := hrel
  by_cases hlt : lo < hi
  · obtain ⟨md,hmd⟩ : ∃ md,md = (lo + hi) / 2 := ⟨_,rfl⟩
    obtain ⟨b,off,x,rfl,hb,hx,e0,e1,e2⟩ := EdsAt.at (H.out.below EdE.stays W0.out.b) (k := (lo + hi) / 2) (by omega)
    have hxr := HRG.out x (List.mem_of_getElem? hx)
    have HX := Lib.hid hx
    have HC := Lib.hid (HF.out x s wr hxr.1 hxr.2 h2 h3)
    clear hx
    go_wp2_with fail
    refine HC.out.mono ?_
    rintro e w2 ⟨rfl,hb2⟩
    have W1 := Lib.hid (W0.out.next hb2)
    clear hb2 HC e0 e1 e2 W0
    by_cases hyx : x.ev < s
    · have hd : decide (x.ev - s < 0) = true := by simp; omega
      go_wp2
      go_roundw
      case rel =>
       refine ⟨(lo + hi) / 2 + 1,hi,by go_num,rfl,by omega,hin,⟨fun t z ht hz => ?_,HB.out.2⟩,W1.out⟩
       by_cases e : t = (lo + hi) / 2
       · subst e; rw [HX.out] at hz; cases hz; exact hyx
       · have := HS.out t _ z x (by omega) hz HX.out; omega
      case measure => simp [intOf]; omega
    · have hd : decide (x.ev - s < 0) = false := by simp; omega
      go_wp2
      go_roundw
      case rel =>
       refine ⟨lo,(lo + hi) / 2,rfl,by go_num,by omega,by omega,⟨HB.out.1,fun t z ht hz => ?_⟩,W1.out⟩
       by_cases e : t = (lo + hi) / 2
       · subst e; rw [HX.out] at hz; cases hz; omega
       · have := HS.out _ t x z (by omega) HX.out hz; omega
      case measure => simp [intOf]; omega
  · obtain rfl : lo = hi := by omega
    by_cases hlo : lo < l.length
    · obtain ⟨b,off,x,rfl,hb,hx,e0,e1,e2⟩ := EdsAt.at (H.out.below EdE.stays W0.out.b) hlo
      have hxr := HRG.out x (List.mem_of_getElem? hx)
      have HC := Lib.hid (HF.out x s wr hxr.1 hxr.2 h2 h3)
      have hlo2 : decide ((lo : Int) < (l.length : Int)) = true := by simp; omega
      have HR3 : Hid (((x.ev - s == 0) = true ∧ ∃ x,l[lo]? = some x ∧ x.ev = s) ∨ ((x.ev - s == 0) = false ∧ ∀ x,l[lo]? = some x → x.ev ≠ s)) := by
       by_cases e : x.ev = s
       · exact .inl ⟨by simp; omega,x,hx,e⟩
       · exact .inr ⟨by simp; omega,fun y hy => by rw [hx] at hy; cases hy; exact e⟩
      clear hx
      go_wp2_with fail
      refine HC.out.mono ?_
      rintro e w2 ⟨rfl,hb2⟩
      have W1 := Lib.hid (W0.out.next hb2)
      clear hb2 HC e0 e1 e2 W0
      go_wp2_with fail
      refine bodyPost_ret (v := .tuple #[.int .i64 (lo : Int),.bool (x.ev - s == 0)]) (by simp [results,Try.results80,go_sem]) rfl ?_
      exact ⟨lo,_,rfl,hin,HB.out,HR3.out,W1.out.b⟩
    · have hlo2 : decide ((lo : Int) < (l.length : Int)) = false := by simp; omega
      go_wp2_with fail
      refine bodyPost_ret (v := .tuple #[.int .i64 (lo : Int),.bool false]) (by simp [results,Try.results80,go_sem]) rfl ?_
      exact ⟨lo,false,rfl,hin,HB.out,.inr ⟨rfl,fun x hx => absurd (List.getElem?_eq_some_iff.1 hx).1 hlo⟩,W0.out.b⟩

def stepL (l : List Ed) (e : Int) : Int := ((l.find? fun x => decide (x.ev = e)).map (·.dst)).getD (-1)
theorem stepL_out (a : Au) (s : Nat) (e : Int) : stepL (outOf a.ed s) e = nextV a.ed s e := by
 unfold stepL outOf nextV
 rw [List.find?_filter]
 simp only [decide_eq_true_eq,Bool.decide_and]
theorem stepL_hit {l : List Ed} {e : Int} (hu : ∀ x y,x ∈ l → y ∈ l → x.ev = y.ev → x = y) {p : Nat} {x : Ed} (hx : l[p]? = some x) (he : x.ev = e) : stepL l e = x.dst := by
 unfold stepL
 cases hf : l.find? fun x => decide (x.ev = e) with
 | none =>
   have := List.find?_eq_none.1 hf x (List.mem_of_getElem? hx)
   simp [he] at this
 | some y =>
   have h1 := List.mem_of_find?_eq_some hf
   have h2 := List.find?_some hf
   simp at h2
   rw [hu y x h1 (List.mem_of_getElem? hx) (h2.trans he.symm)]; rfl
theorem stepL_miss {l : List Ed} {e : Int} (h : ∀ x,x ∈ l → x.ev ≠ e) : stepL l e = -1 := by
 unfold stepL
 rw [List.find?_eq_none.2 (fun x hx => by simp [h x hx])]; rfl
set_option maxHeartbeats 1000000 in
theorem stepE_c (A : Option Addr) (c : Nat) (l : List Ed) (s : Int) (w : World) (h : EdsAt w A l) (hl : l.length ≤ 1000000) (hs : EvUp l) (hu : ∀ x y,x ∈ l → y ∈ l → x.ev = y.ev → x = y) (hr : ∀ x,x ∈ l → -1000000 ≤ x.ev ∧ x.ev ≤ 1000000) (h2 : -1000000 ≤ s) (h3 : s ≤ 1000000) :
 Calls Try.prog 68 #[.slice A l.length c,.int .i64 s] w (Ret (.int .i64 (stepL l s)) w) := by
 have H := Lib.hid h
 have HU := Lib.hid hu
 have HSS := Lib.hid hs
 have HC := Lib.hid (bse_c A c l s 81 w h hl hs hr h2 h3 (fun x s w => step1_c x s w) (fun args w => by rfl))
 clear h hs hu hr
 go_enter Try.func68,Try.ntmps68
 go_wp2_with fail
 refine HC.out.mono ?_
 rintro e w2 ⟨p,r,rfl,hp,HB,HR,hb⟩
 have W2 := Lib.hid hb
 clear HC
 rcases HR.out with ⟨rfl,x,hx,hev⟩ | ⟨rfl,hno⟩
 · have hpl := (List.getElem?_eq_some_iff.1 hx).1
   obtain ⟨b,off,y,rfl,hb0,hy,e0,e1,e2⟩ := EdsAt.at (H.out.below EdE.stays hb) hpl
   rw [hx] at hy; cases hy
   have HE : Hid (stepL l s = x.dst) := stepL_hit HU.out hx hev
   clear hx hb
   go_wp2_with fail
   refine bodyPost_ret (v := .int .i64 x.dst) (by simp [results,Try.results68,go_sem]) rfl ?_
   exact ⟨by rw [HE.out],W2.out⟩
 · have HE : Hid (stepL l s = -1) := stepL_miss fun x hx he => by
    obtain ⟨t,ht,rfl⟩ := List.mem_iff_getElem.1 hx
    have hg : l[t]? = some l[t] := List.getElem?_eq_getElem ht
    rcases Nat.lt_trichotomy t p with g | g | g
    · have := HB.out.1 t _ g hg; omega
    · subst g; exact hno _ hg he
    · have hp2 : p < l.length := by omega
      have h4 := HB.out.2 p l[p] (Nat.le_refl _) (List.getElem?_eq_getElem hp2)
      have h5 := hno l[p] (List.getElem?_eq_getElem hp2)
      have h6 := List.pairwise_iff_getElem.1 HSS.out p t hp2 ht g
      omega
   clear hb
   go_wp2_with fail
   refine bodyPost_ret (v := .int .i64 (-1)) (by simp [results,Try.results68,go_sem]) rfl ?_
   exact ⟨by rw [HE.out],W2.out⟩
set_option maxHeartbeats 400000 in
theorem equalI_c (A1 A2 : Option Addr) (c1 c2 : Nat) (l1 l2 : List Int) (w : World) (h1 : IntsAt w A1 l1) (h2 : IntsAt w A2 l2) (n1 : l1.length ≤ 140737488355328) (n2 : l2.length ≤ 140737488355328) :
 Calls Try.prog 64 #[.slice A1 l1.length c1,.slice A2 l2.length c2] w (Tells (l1 = l2) w) := by
 have H1 := Lib.hid h1
 have H2 := Lib.hid h2
 clear h1 h2
 by_cases hl : l1.length = l2.length
 · go_enter Try.func64,Try.ntmps64
   have HL := Lib.hid hl
   rw [← hl]
   clear hl n2
   go_wp2
   go_loopw [13] (fun i wr => ∃ k : Nat,k ≤ l1.length ∧ i = .int .i64 k ∧ Hid (Below w.heap.size w wr) ∧ Hid (l1.take k = l2.take k)) (fun i _ => l1.length - (intOf i).toNat)
   case atStart => exact ⟨0,by omega,rfl,Below.refl _ _,rfl⟩
   case round =>
    obtain ⟨k,hk,rfl,BW,HN⟩ := hrel
    by_cases hlt : k < l1.length
    · obtain ⟨b,off,x,rfl,hb,hx,e0⟩ := IntsAt.at (H1.out.below IntE.stays BW.out) hlt
      obtain ⟨b2,off2,y,rfl,hb2,hy,g0⟩ := IntsAt.at (H2.out.below IntE.stays BW.out) (HL.out ▸ hlt)
      have HX := Lib.hid hx
      have HY := Lib.hid hy
      clear hx hy
      by_cases hxy : x = y
      · subst hxy
        go_wp2_with fail
        go_quiet (fail)
        go_wp2
        go_roundw
        case rel => exact ⟨k + 1,by omega,by go_num,BW.out.draws _,Lib.hid (by rw [List.take_add_one,List.take_add_one,HN.out,HX.out,HY.out])⟩
        case measure => simp [intOf]; omega
      · have hne : (x == y) = false := by simpa using hxy
        go_wp2_with fail
        go_quiet (fail)
        go_wp2
        go_ret
        exact Tells.no (fun h => by subst h; have := HX.out; rw [HY.out] at this; cases this; exact hxy rfl) (BW.out.draws _)
    · obtain rfl : k = l1.length := by omega
      go_wp2
      go_ret
      exact Tells.yes (by have := HN.out; rw [List.take_length,HL.out,List.take_length] at this; exact this) BW.out
 · have hne : ((l1.length : Int) == (l2.length : Int)) = false := by rw [beq_eq_false_iff_ne]; omega
   go_enter Try.func64,Try.ntmps64
   go_wp2
   go_ret
   exact Tells.no (fun h => hl (by rw [h])) (Below.refl _ _)
set_option maxHeartbeats 400000 in
theorem equalE_c (A1 A2 : Option Addr) (c1 c2 : Nat) (l1 l2 : List Ed) (w : World) (h1 : EdsAt w A1 l1) (h2 : EdsAt w A2 l2) (n1 : l1.length ≤ 140737488355328) (n2 : l2.length ≤ 140737488355328) :
 Calls Try.prog 65 #[.slice A1 l1.length c1,.slice A2 l2.length c2] w (Tells (l1 = l2) w) := by
 have H1 := Lib.hid h1
 have H2 := Lib.hid h2
 clear h1 h2
 by_cases hl : l1.length = l2.length
 · go_enter Try.func65,Try.ntmps65
   have HL := Lib.hid hl
   rw [← hl]
   clear hl n2
   go_wp2
   go_loopw [13] (fun i wr => ∃ k : Nat,k ≤ l1.length ∧ i = .int .i64 k ∧ Hid (Below w.heap.size w wr) ∧ Hid (l1.take k = l2.take k)) (fun i _ => l1.length - (intOf i).toNat)
   case atStart => exact ⟨0,by omega,rfl,Below.refl _ _,rfl⟩
   case round =>
    obtain ⟨k,hk,rfl,BW,HN⟩ := hrel
    by_cases hlt : k < l1.length
    · obtain ⟨b,off,x,rfl,hb,hx,e0,e1,e2⟩ := EdsAt.at (H1.out.below EdE.stays BW.out) hlt
      obtain ⟨b2,off2,y,rfl,hb2,hy,g0,g1,g2⟩ := EdsAt.at (H2.out.below EdE.stays BW.out) (HL.out ▸ hlt)
      have HX := Lib.hid hx
      have HY := Lib.hid hy
      clear hx hy
      by_cases hxy : x = y
      · subst hxy
        go_wp2_with fail
        go_quiet (fail)
        go_wp2
        go_roundw
        case rel => exact ⟨k + 1,by omega,by go_num,BW.out.draws _,Lib.hid (by rw [List.take_add_one,List.take_add_one,HN.out,HX.out,HY.out])⟩
        case measure => simp [intOf]; omega
      · by_cases h1 : x.src = y.src
        · rw [h1] at e0
          by_cases h2 : x.ev = y.ev
          · rw [h2] at e1
            have h3 : ¬ x.dst = y.dst := fun h3 => hxy (by
             obtain ⟨xs,xe,xd⟩ := x
             obtain ⟨ys,ye,yd⟩ := y
             obtain rfl : xs = ys := h1
             obtain rfl : xe = ye := h2
             obtain rfl : xd = yd := h3
             rfl)
            have hne : (x.dst == y.dst) = false := by simpa using h3
            go_wp2_with fail
            go_quiet (fail)
            go_wp2
            go_ret
            exact Tells.no (fun h => by subst h; have := HX.out; rw [HY.out] at this; cases this; exact hxy rfl) (BW.out.draws _)
          · have hne : (x.ev == y.ev) = false := by simpa using h2
            go_wp2_with fail
            go_quiet (fail)
            go_wp2
            go_ret
            exact Tells.no (fun h => by subst h; have := HX.out; rw [HY.out] at this; cases this; exact hxy rfl) (BW.out.draws _)
        · have hne : (x.src == y.src) = false := by simpa using h1
          go_wp2_with fail
          go_quiet (fail)
          go_wp2
          go_ret
          exact Tells.no (fun h => by subst h; have := HX.out; rw [HY.out] at this; cases this; exact hxy rfl) (BW.out.draws _)
    · obtain rfl : k = l1.length := by omega
      go_wp2
      go_ret
      exact Tells.yes (by have := HN.out; rw [List.take_length,HL.out,List.take_length] at this; exact this) BW.out
 · have hne : ((l1.length : Int) == (l2.length : Int)) = false := by rw [beq_eq_false_iff_ne]; omega
   go_enter Try.func65,Try.ntmps65
   go_wp2
   go_ret
   exact Tells.no (fun h => hl (by rw [h])) (Below.refl _ _)
set_option maxRecDepth 100000 in
set_option maxHeartbeats 4000000 in
theorem autoEq_c (a b : Au) (p q : AuP) (w : World) (h1 : Au.At w a p) (h2 : Au.At w b q) :
 Calls Try.prog 40 #[a.val p,b.val q] w (Tells (a = b) w) := by
 have H1 := Lib.hid h1
 have H2 := Lib.hid h2
 obtain ⟨al,n,mr,ed⟩ := a
 obtain ⟨A1,c1,A2,c2,A3,c3⟩ := p
 obtain ⟨bl,k,ms,es⟩ := b
 obtain ⟨B1,d1,B2,d2,B3,d3⟩ := q
 dsimp only [Au.val]
 clear h1 h2
 go_enter Try.func40,Try.ntmps40
 go_upto_region 1 with fail
 refine wp_world (fun W => Sep w.heap.size w [eBlk (w.heap.size + 1) 25 [.slice B1 bl.length d1,.int .i64 k,.slice B2 ms.length d2,.slice B3 es.length d3],eBlk w.heap.size 25 [.slice A1 al.length c1,.int .i64 n,.slice A2 mr.length c2,.slice A3 ed.length c3]] W) ?_ fun W S => ?_
 · exact ((Sep.here w).alloc' _ [_,_,_,_] rfl rfl).alloc' _ [_,_,_,_] rfl (by simp)
 have S0 := Lib.hid S
 clear S
 have a0 := ckC S0.out 1 rfl 0 rfl
 have a1 := ckC S0.out 1 rfl 1 rfl
 have b0 := ckC S0.out 0 rfl 0 rfl
 have b1 := ckC S0.out 0 rfl 1 rfl
 by_cases hn : n = k
 · subst hn
   go_wp2_with fail
   refine (equalI_c A1 B1 c1 d1 al bl W (H1.out.below S0.out.below).al (H2.out.below S0.out.below).al H1.out.lal H2.out.lal).mono ?_
   intro e w1 hs
   clear a0 a1 b0 b1
   rcases hs.no1 with ⟨rfl,hq,hb⟩ | ⟨rfl,hq,hb⟩
   · go_wp2_with fail
     go_ret
     exact Tells.no (fun h => hq.out (congrArg Au.al h)) ((S0.out.next hb).below)
   obtain rfl := hq.out
   have S1 := Lib.hid (S0.out.next hb)
   clear hs hq hb S0
   have a2 := ckC S1.out 1 rfl 2 rfl
   have b2 := ckC S1.out 0 rfl 2 rfl
   go_wp2_with fail
   refine (equalI_c A2 B2 c2 d2 mr ms w1 (H1.out.below S1.out.below).mr (H2.out.below S1.out.below).mr H1.out.lmk H2.out.lmk).mono ?_
   intro e w2 hs
   clear a2 b2
   rcases hs.no1 with ⟨rfl,hq,hb⟩ | ⟨rfl,hq,hb⟩
   · go_wp2_with fail
     go_ret
     exact Tells.no (fun h => hq.out (congrArg Au.mr h)) ((S1.out.next hb).below)
   obtain rfl := hq.out
   have S2 := Lib.hid (S1.out.next hb)
   clear hs hq hb S1
   have a3 := ckC S2.out 1 rfl 3 rfl
   have b3 := ckC S2.out 0 rfl 3 rfl
   go_wp2_with fail
   refine (equalE_c A3 B3 c3 d3 ed es w2 (H1.out.below S2.out.below).ed (H2.out.below S2.out.below).ed H1.out.led H2.out.led).mono ?_
   intro e w3 hs
   clear a3 b3
   rcases hs.no1 with ⟨rfl,hq,hb⟩ | ⟨rfl,hq,hb⟩
   · go_wp2_with fail
     go_ret
     exact Tells.no (fun h => hq.out (congrArg Au.ed h)) ((S2.out.next hb).below)
   obtain rfl := hq.out
   go_wp2_with fail
   go_ret
   exact Tells.yes (by trivial) ((S2.out.next hb).below)
 · have hne : (n == k) = false := by simpa using hn
   go_wp2_with fail
   go_ret
   exact Tells.no (fun h => hn (congrArg Au.n h)) (S0.out.below)
end Go.Proofs.Ytjjifefanjnghaa
