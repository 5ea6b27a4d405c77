/-
  language.ways: the numbers of words that lead to each state, for one length after another.
  slices: Clone and Equal of ints.
  alphabet.merge and alphabet.Union.
  open: the machine of an automaton.
  check: right automata and a kind that is one.
  slices.Reverse of numbers.
-/
import Derived.Test.YtkifgffhoenaoaaDoorBas09
import Derived.Sort.LoopGhostIn
import Derived.Test.YtkifgffhoenaoaaDoorBas01
import Derived.Deep.RegionHeld
import Derived.Deep.DeepCutAuto
import Derived.Deep.CutBlock
import Derived.Test.YtkifgffhoenaoaaDoorBas03
import Derived.Test.YtkifgffhoenaoaaDoorBas02
import Derived.Laws.OwnMore
import Derived.RegionTactic
import Derived.BigRegion
namespace Go.Proofs.YtkifgffhoenaoaaDoor
open Go.RowKit
set_option linter.unusedSimpArgs false
set_option linter.unusedVariables false
set_option maxRecDepth 100000
attribute [local go_sem] Oper.semAt_some

def wv (a : Au) (lim k s : Nat) : Int := ((min (ledV a k (s : Int)) lim : Nat) : Int)
theorem Perm.outOf {α : Type} {x : α} {l : List α} (h : x ∈ l) : ∃ r,l.Perm (x :: r) := by
 obtain ⟨s,t,rfl⟩ := List.append_of_mem h
 exact ⟨s ++ t,List.perm_middle⟩
def GivesWy (a : Au) (p : AuP) (lim : Nat) (w : World) (e : Ending) (w' : World) : Prop := ∃ ba bl,e = .returned (.func (.func 70) #[] #[.pointer (some ⟨ba,0,none⟩),.pointer (some ⟨bl,0,none⟩)]) ∧ Hid (Sep w.heap.size w [eBlk bl 3 [.int .i64 (lim : Int)],eBlk ba 35 (auCells a p)] w')
set_option maxHeartbeats 1000000 in
theorem ways_c (a : Au) (p : AuP) (lim : Nat) (w : World) :
 Calls Tryd.prog 45 #[a.val p,.int .i64 (lim : Int)] w (GivesWy a p lim w) := by
 obtain ⟨al,n,mr,ed⟩ := a
 obtain ⟨A1,c1,A2,c2,A3,c3⟩ := p
 dsimp only [Au.val]
 go_enter Tryd.func45,Tryd.ntmps45
 go_wp2_with fail
 go_ret
 refine ⟨w.heap.size,w.heap.size + 1,rfl,?_⟩
 exact ((Sep.here w).alloc' _ [_,_,_,_] rfl rfl).alloc' _ [_] rfl (by simp)
set_option maxHeartbeats 8000000 in
theorem ways_iter (a : Au) (p : AuP) (lim ba bl n0 m : Nat) (w0 w : World) (hr : a.Right) (hA : EdsAt w0 p.A3 a.ed) (hn0 : n0 = w0.heap.size) (h1 : 1 ≤ lim) (h2 : lim ≤ 1152921504606846976) :
 IterS Tryd.prog (m + 1) 70 #[.pointer (some ⟨ba,0,none⟩),.pointer (some ⟨bl,0,none⟩)] (fun x : Nat × Nat => #[.slice (some ⟨x.1,0,none⟩) a.n.toNat a.n.toNat]) (fun x => [eBlk x.1 3 (mkI a.n.toNat (wv a lim x.2))]) (fun k x => x.2 = k) (fun _ => False) (fun k => k ≤ 32)
  [eBlk bl 3 [.int .i64 (lim : Int)],eBlk ba 35 (auCells a p)] n0 w0 w := by
 intro l R Rx es W hb S hR0 hbd hround
 subst hn0
 have h00 := hr.n0
 have hn := hr.n1
 have HR := Lib.hid hr
 have HA := Lib.hid hA
 have hle := ed_len hr
 have HY := Lib.hid hround
 have HBD := Lib.hid hbd
 have HS : Hid (∀ (i : Nat) x,a.ed[i]? = some x → (0 ≤ x.src ∧ x.src < a.n) ∧ 0 ≤ x.dst ∧ x.dst < a.n) := fun i x hx => ⟨⟨(hr.edge hx).1,(hr.edge hx).2.1⟩,(hr.edge hx).2.2.1,(hr.edge hx).2.2.2.1⟩
 obtain ⟨al,n,mr,ed⟩ := a
 obtain ⟨A1,c1,A2,c2,A3,c3⟩ := p
 obtain ⟨N,rfl⟩ := Int.eq_ofNat_of_zero_le h00
 dsimp only [auCells] at HY HBD hn hle HS ⊢
 simp only [Int.toNat_natCast] at HY
 have hmk := make_run (P := Tryd.prog) 32 3 (.int .i64 0) 8 Tryd.underlying32 intInfo rfl N (by omega) (by omega)
 have RK := Lib.hid hR0
 have S0 := Lib.hid S
 have kb1 := BlkAt.cell (S.ok _ ((hbd 0 es hR0).2 _ (List.mem_cons_of_mem _ (List.mem_cons_self)))) 1
 simp only [auCells,List.getElem?_cons_succ,List.getElem?_cons_zero] at kb1
 clear hr hA h00 hround hbd hR0 S hb
 refine callsIn_of_wp Tryd.func70 rfl trivial ?_ rfl
 simp only [Tryd.ntmps70,List.size_toArray,List.length_cons,List.length_nil,Nat.reduceAdd,Nat.reduceSub,Array.replicate_succ,Array.replicate_zero,List.push_toArray,List.append_toArray,List.nil_append,List.cons_append]
 obtain ⟨g,hg⟩ : ∃ g,g = W.heap.size := ⟨_,rfl⟩
 gi_upto_region 1 with fail
 rw [← hg]
 refine wpIn_world (fun V => Sep w0.heap.size w0 ([eBlk g 3 (mkI N fun _ => 0)] ++ es) V) ?_ fun W1 S' => ?_
 · have h := S0.out.alloc' 3 (List.replicate N (.int .i64 0)) (o := Obj.cells (Array.replicate N (.int .i64 0)) 3) (by simp) hg
   rw [mkI_rep] at h
   exact h
 have S1 := Lib.hid S'
 clear S' S0 hg kb1
 have kb1 := BlkAt.cell (S1.out.ok _ (List.mem_cons_of_mem _ ((HBD.out 0 es RK.out).2 _ (List.mem_cons_of_mem _ (List.mem_cons_self))))) 1
 simp only [auCells,List.getElem?_cons_succ,List.getElem?_cons_zero] at kb1
 gi_upto_if 13 with fail
 gi_cut [13] from 14 (fun v wx => Hid (Sep w0.heap.size w0 ([eBlk g 3 (mkI N (wv ⟨al,(N : Int),mr,ed⟩ lim 0))] ++ es) wx))
 case first =>
  by_cases hN : 0 < N
  · have e1 : decide ((0 : Int) < (N : Int)) = true := by simp; omega
    have c0 := (BlkAt.cell (S1.out.get 0 rfl) 0).trans (mkI_get hN)
    have f0 := BlkAt.free (S1.out.get 0 rfl) 0
    have S2 : Hid (Sep w0.heap.size w0 ([eBlk g 3 (mkI N (wv ⟨al,(N : Int),mr,ed⟩ lim 0))] ++ es) (W1.setCell ⟨g,0,none⟩ (.int .i64 1))) := by
     have h := S1.out.set 0 rfl 0 (.int .i64 1)
     rw [mkI_set,mkI_congr (f := fun t => if t = 0 then (1 : Int) else 0) (g := wv ⟨al,(N : Int),mr,ed⟩ lim 0) (fun t _ => by
      unfold wv
      rw [ledV_zero,show (⟨al,(N : Int),mr,ed⟩ : Au).st = 0 from if_neg (by show ¬ (N : Int) = 0; omega)]
      by_cases e : t = 0
      · subst e; rw [if_pos rfl,if_pos (by simp)]; omega
      · rw [if_neg e,if_neg (by omega)]; simp)] at h
     exact h
    clear S1
    gi_wp2
    gi_meet
    exact S2.out
  · obtain rfl : N = 0 := by omega
    have S2 : Hid (Sep w0.heap.size w0 ([eBlk g 3 (mkI 0 (wv ⟨al,((0 : Nat) : Int),mr,ed⟩ lim 0))] ++ es) W1) := S1.out
    clear S1
    gi_wp2
    gi_meet
    exact S2.out
 case rest =>
  clear S1 kb1
  have S1 : Hid (Sep w0.heap.size w0 ([eBlk g 3 (mkI N (wv ⟨al,(N : Int),mr,ed⟩ lim 0))] ++ es) wc) := hcut
  clear hcut
  gi_wp2
  gi_loopg [4] 40 (fun r v4 wr => ∃ (k g : Nat) (es1 : List Ent),r + k = 40 ∧ v4 = .slice (some ⟨g,0,none⟩) N N ∧ Hid (R k es1) ∧ Hid (Sep w0.heap.size w0 ([eBlk g 3 (mkI N (wv ⟨al,(N : Int),mr,ed⟩ lim k))] ++ es1) wr))
  case atStart => exact ⟨0,g,es,rfl,rfl,RK.out,S1.out⟩
  case round =>
   clear S1 RK
   obtain ⟨k,g,es1,hgk,rfl,RK,S⟩ := hrel
   have hk32 := (HBD.out k es1 RK.out).1
   obtain ⟨fn,tmps,assign,body,hy,hR⟩ := HY.out k (g,k) es1 wr rfl RK.out S.out
   have HRR := Lib.hid hR
   dsimp only at hy
   clear hR
   gi_wp2
   refine HRR.out.mono ?_
   rintro e W3 (⟨rfl,es2,hr2,S2⟩ | ⟨rfl,es2,hr2,S2⟩)
   · have RK2 := Lib.hid hr2
     have S3 : Hid (Sep w0.heap.size w0 ([eBlk g 3 (mkI N (wv ⟨al,(N : Int),mr,ed⟩ lim k))] ++ es2) W3) := S2
     clear hr2 S2 HRR hy S RK
     have hk33 := (HBD.out (k + 1) es2 RK2.out).1
     have kb1 := BlkAt.cell (S3.out.ok _ (List.mem_cons_of_mem _ ((HBD.out _ es2 RK2.out).2 _ (List.mem_cons_of_mem _ (List.mem_cons_self))))) 1
     simp only [auCells,List.getElem?_cons_succ,List.getElem?_cons_zero] at kb1
     obtain ⟨g2,hg2⟩ : ∃ g,g = W3.heap.size := ⟨_,rfl⟩
     gi_upto_region 5 with fail
     rw [← hg2]
     refine wpIn_world (fun V => Sep w0.heap.size w0 ([eBlk g2 3 (mkI N fun s => ((min (sumTo (ledV ⟨al,(N : Int),mr,ed⟩ k) (s : Int) (ed.take 0)) lim : Nat) : Int)),eBlk g 3 (mkI N (wv ⟨al,(N : Int),mr,ed⟩ lim k))] ++ es2) V) ?_ fun W4 S' => ?_
     · have h := S3.out.alloc' 3 (List.replicate N (.int .i64 0)) (o := Obj.cells (Array.replicate N (.int .i64 0)) 3) (by simp) hg2
       rw [mkI_rep] at h
       rw [mkI_congr (g := fun _ => (0 : Int)) (fun s _ => by simp [sumTo])]
       exact h
     have S4 := Lib.hid S'
     clear S' S3 hg2 kb1
     obtain ⟨es3,hp⟩ := Perm.outOf ((HBD.out _ es2 RK2.out).2 _ (List.mem_cons_self))
     have PA : Hid (∀ A B : Ent,([A,B] ++ es2).Perm ([eBlk bl 3 [.int .i64 (lim : Int)],A,B] ++ es3)) := fun A B => (hp.append_left [A,B]).trans List.perm_middle
     have PB : Hid (∀ A B : Ent,([eBlk bl 3 [.int .i64 (lim : Int)],A,B] ++ es3).Perm ([A,B] ++ es2)) := fun A B => (PA.out A B).symm
     clear hp
     have kb3 := BlkAt.cell (S4.out.ok _ (List.mem_cons_of_mem _ (List.mem_cons_of_mem _ ((HBD.out _ es2 RK2.out).2 _ (List.mem_cons_of_mem _ (List.mem_cons_self)))))) 3
     simp only [auCells,List.getElem?_cons_succ,List.getElem?_cons_zero] at kb3
     gi_wp2
     gi_loopw [25] (fun i wr => ∃ t : Nat,i = .int .i64 t ∧ t ≤ ed.length ∧ Hid (Sep w0.heap.size w0 ([eBlk g2 3 (mkI N fun s => ((min (sumTo (ledV ⟨al,(N : Int),mr,ed⟩ k) (s : Int) (ed.take t)) lim : Nat) : Int)),eBlk g 3 (mkI N (wv ⟨al,(N : Int),mr,ed⟩ lim k))] ++ es2) wr)) (fun i _ => ed.length - (intOf i).toNat)
     case atStart => exact ⟨0,rfl,Nat.zero_le _,S4.out⟩
     case round =>
      clear S4 kb3
      obtain ⟨t,rfl,ht,S⟩ := hrel
      by_cases hlt : t < ed.length
      · obtain ⟨b,off,x,hAe,hb,hx,y0,y1,y2⟩ := EdsAt.at (HA.out.below EdE.stays S.out.below) hlt
        subst hAe
        obtain ⟨s,hs⟩ := Int.eq_ofNat_of_zero_le (HS.out t x hx).1.1
        obtain ⟨d,hd⟩ := Int.eq_ofNat_of_zero_le (HS.out t x hx).2.1
        have hsN : s < N := by have := (HS.out t x hx).1.2; omega
        have hdN : d < N := by have := (HS.out t x hx).2.2; omega
        obtain ⟨ye,hye⟩ : ∃ z,z = x.ev := ⟨_,rfl⟩
        obtain ⟨c,hc⟩ : ∃ c : Nat,c = min (ledV ⟨al,(N : Int),mr,ed⟩ k (s : Int)) lim := ⟨_,rfl⟩
        obtain ⟨q,hq⟩ : ∃ q : Nat,q = min (sumTo (ledV ⟨al,(N : Int),mr,ed⟩ k) (d : Int) (ed.take t)) lim := ⟨_,rfl⟩
        obtain ⟨z,hz⟩ : ∃ z : Nat,z = min (q + c) lim := ⟨_,rfl⟩
        have HWV : Hid (wv ⟨al,(N : Int),mr,ed⟩ lim k s = (c : Int)) := by unfold Hid wv; rw [hc]
        have HSV : Hid (((min (sumTo (ledV ⟨al,(N : Int),mr,ed⟩ k) (d : Int) (ed.take t)) lim : Nat) : Int) = (q : Int)) := by unfold Hid; rw [hq]
        have HG : Hid ((mkI N fun tt => if tt = d then (z : Int) else ((min (sumTo (ledV ⟨al,(N : Int),mr,ed⟩ k) (tt : Int) (ed.take t)) lim : Nat) : Int)) = mkI N fun s => ((min (sumTo (ledV ⟨al,(N : Int),mr,ed⟩ k) (s : Int) (ed.take (t + 1))) lim : Nat) : Int)) := mkI_congr fun tt _ => by
         rw [List.take_add_one,hx,Option.toList_some,sumTo_snoc,hd,hs]
         by_cases e : tt = d
         · subst e
           rw [if_pos rfl,if_pos rfl,hz,hq,hc]
           omega
         · rw [if_neg e,if_neg (by omega),Nat.add_zero]
        have hcl : c ≤ lim := by omega
        have hql : q ≤ lim := by omega
        have hmin : (if (lim : Int) < (q : Int) + (c : Int) then (lim : Int) else (q : Int) + (c : Int)) = (z : Int) := by
         split <;> omega
        rw [hs] at y0
        rw [← hye] at y1
        rw [hd] at y2
        clear hx hs hd hye hb hc hq hz
        gi_upto_region 8 with fail
        refine wpIn_world (fun V => ∃ bx,bx = wr.heap.size ∧ Sep w0.heap.size w0 ([eBlk bx 87 [.int .i64 (s : Int),.int .i64 ye,.int .i64 (d : Int)],eBlk bl 3 [.int .i64 (lim : Int)],eBlk g2 3 (mkI N fun s => ((min (sumTo (ledV ⟨al,(N : Int),mr,ed⟩ k) (s : Int) (ed.take t)) lim : Nat) : Int)),eBlk g 3 (mkI N (wv ⟨al,(N : Int),mr,ed⟩ lim k))] ++ es3) V) ⟨_,rfl,(S.out.perm (PA.out _ _)).alloc' _ [_,_,_] rfl rfl⟩ fun W S' => ?_
        obtain ⟨bx,hbx,S'⟩ := S'
        rw [← hbx]
        have S3 := Lib.hid S'
        clear S' hbx S y0 y1 y2
        have hwr : IntKind.i64.wrap ((q : Int) + (c : Int)) = (q : Int) + (c : Int) := IntWalk.i64_in _ (by omega)
        refine wpIn_wide.2 ?_
        have S1 := Lib.hid S3.out.drew
        refine wp_region_held_drew (S := (fun V => Sep w0.heap.size w0 [eBlk bx 87 [.int .i64 (s : Int),.int .i64 ye,.int .i64 (d : Int)],eBlk bl 3 [.int .i64 (lim : Int)],eBlk g 3 (mkI N (wv ⟨al,(N : Int),mr,ed⟩ lim k))] V)) (by kernel_rfl) ?_ (fun hHeld => ?_)
        · exact S1.out.left.pick [0,1,3] (by decide)
        generalize hwz : W.drew = w1 at *
        clear hwz
        refine tkH 0 rfl (v := ?_) (by kernel_rfl) ?_ hHeld ?_
        rotate_left
        · intro V hSw
          clear hSw
          first | (go_simp; done) | (go_simp; with_reducible rfl)
        try simp only [sx]
        refine tkH 1 rfl (v := ?_) (by kernel_rfl) ?_ hHeld ?_
        rotate_left
        · intro V hSw
          clear hSw
          first | (go_simp; done) | (go_simp; with_reducible rfl)
        try simp only [sx]
        refine tkH 2 rfl (v := ?_) (by kernel_rfl) ?_ hHeld ?_
        rotate_left
        · intro V hSw
          have b2 := BlkAt.cell (Sep.get (show Sep w0.heap.size w0 _ V from hSw) 0 rfl) 2
          simp only [List.getElem?_cons_succ,List.getElem?_cons_zero] at b2
          clear hSw
          first | (go_simp; done) | (go_simp; with_reducible rfl)
        try simp only [sx]
        refine tkH 3 rfl (v := ?_) (by kernel_rfl) ?_ hHeld ?_
        rotate_left
        · intro V hSw
          clear hSw
          first | (go_simp; done) | (go_simp; with_reducible rfl)
        try simp only [sx]
        refine tkH 4 rfl (v := ?_) (by kernel_rfl) ?_ hHeld ?_
        rotate_left
        · intro V hSw
          clear hSw
          first | (go_simp; done) | (go_simp; with_reducible rfl)
        try simp only [sx]
        refine tkH 5 rfl (v := ?_) (by kernel_rfl) ?_ hHeld ?_
        rotate_left
        · intro V hSw
          have b2 := BlkAt.cell (Sep.get (show Sep w0.heap.size w0 _ V from hSw) 0 rfl) 2
          simp only [List.getElem?_cons_succ,List.getElem?_cons_zero] at b2
          clear hSw
          first | (go_simp; done) | (go_simp; with_reducible rfl)
        try simp only [sx]
        refine tkH 6 rfl (v := ?_) (by kernel_rfl) ?_ hHeld ?_
        rotate_left
        · intro V hSw
          clear hSw
          first | (go_simp; done) | (go_simp; with_reducible rfl)
        try simp only [sx]
        refine tkH 8 rfl (v := ?_) (by kernel_rfl) ?_ hHeld ?_
        rotate_left
        · intro V hSw
          clear hSw
          first | (go_simp; done) | (go_simp; with_reducible rfl)
        try simp only [sx]
        refine tkH 9 rfl (v := ?_) (by kernel_rfl) ?_ hHeld ?_
        rotate_left
        · intro V hSw
          clear hSw
          first | (go_simp; done) | (go_simp; with_reducible rfl)
        try simp only [sx]
        refine tkH 10 rfl (v := ?_) (by kernel_rfl) ?_ hHeld ?_
        rotate_left
        · intro V hSw
          have b0 := BlkAt.cell (Sep.get (show Sep w0.heap.size w0 _ V from hSw) 0 rfl) 0
          simp only [List.getElem?_cons_succ,List.getElem?_cons_zero] at b0
          clear hSw
          first | (go_simp; done) | (go_simp; with_reducible rfl)
        try simp only [sx]
        refine tkH 11 rfl (v := ?_) (by kernel_rfl) ?_ hHeld ?_
        rotate_left
        · intro V hSw
          clear hSw
          first | (go_simp; done) | (go_simp; with_reducible rfl)
        try simp only [sx]
        refine tkH 12 rfl (v := ?_) (by kernel_rfl) ?_ hHeld ?_
        rotate_left
        · intro V hSw
          have n1 := (BlkAt.cell (Sep.get (show Sep w0.heap.size w0 _ V from hSw) 2 rfl) s).trans (mkI_get hsN)
          rw [HWV.out] at n1
          clear hSw
          first | (go_simp; done) | (go_simp; with_reducible rfl)
        try simp only [sx]
        refine tkH 14 rfl (v := ?_) (by kernel_rfl) ?_ hHeld ?_
        rotate_left
        · intro V hSw
          have l0 := BlkAt.cell (Sep.get (show Sep w0.heap.size w0 _ V from hSw) 1 rfl) 0
          simp only [List.getElem?_cons_succ,List.getElem?_cons_zero] at l0
          clear hSw
          first | (go_simp; done) | (go_simp; with_reducible rfl)
        try simp only [sx]
        refine rdH 7 rfl fun K hK => ?_
        have n2 := (BlkAt.cell (S1.out.get 2 rfl) d).trans (mkI_get hdN)
        rw [HSV.out] at n2
        go_simp
        refine hK.out _ _ ?_ (fun hHeld => ?_)
        · exact S1.out.left.pick [0,1,3] (by decide)
        clear hK K
        try simp only [sx]
        refine tkH 13 rfl (v := ?_) (by kernel_rfl) ?_ hHeld ?_
        rotate_left
        · intro V hSw
          clear hSw
          first | (go_simp; done) | (go_simp; with_reducible rfl)
        try simp only [sx]
        refine tkH 15 rfl (v := ?_) (by kernel_rfl) ?_ hHeld ?_
        rotate_left
        · intro V hSw
          clear hSw
          first | (go_simp; done) | (go_simp; with_reducible rfl)
        try simp only [sx]
        refine tkH 16 rfl (v := ?_) (by kernel_rfl) ?_ hHeld ?_
        rotate_left
        · intro V hSw
          clear hSw
          first | (go_simp; done) | (go_simp; with_reducible rfl)
        try simp only [sx]
        refine rdH 17 rfl fun K hK => ?_
        have sc := (BlkAt.cell (S1.out.get 2 rfl) d).trans (mkI_get hdN)
        have sf := BlkAt.free (S1.out.get 2 rfl) d
        go_simp
        obtain ⟨w2,hw2⟩ : ∃ v,v = w1.setCell ⟨g2,d,none⟩ (.int .i64 (z : Int)) := ⟨_,rfl⟩
        rw [← hw2]
        have S2 : Hid (Sep w0.heap.size w0 ([eBlk bx 87 [.int .i64 (s : Int),.int .i64 ye,.int .i64 (d : Int)],eBlk bl 3 [.int .i64 (lim : Int)],eBlk g2 3 (mkI N fun s => ((min (sumTo (ledV ⟨al,(N : Int),mr,ed⟩ k) (s : Int) (ed.take (t + 1))) lim : Nat) : Int)),eBlk g 3 (mkI N (wv ⟨al,(N : Int),mr,ed⟩ lim k))] ++ es3) w2) := by
         rw [hw2]
         have h := S1.out.set 2 rfl d (.int .i64 (z : Int))
         rw [mkI_set,HG.out] at h
         exact h
        clear hw2 sc sf
        refine hK.out _ _ ?_ (fun hHeld => ?_)
        · exact S2.out.left.pick [0,1,3] (by decide)
        clear hK K
        try simp only [sx]
        refine wpAnyH_done (by kernel_rfl) ?_ _
        gi_wp2
        go_roundw
        case rel => exact ⟨t + 1,by go_num,by omega,S2.out.drop1.perm (PB.out _ _)⟩
        case measure => simp [intOf]; omega
      · obtain rfl : t = ed.length := by omega
        have S5 : Hid (Sep w0.heap.size w0 ([eBlk g2 3 (mkI N (wv ⟨al,(N : Int),mr,ed⟩ lim (k + 1)))] ++ es2) wr) := by
         have h := S.out.drop2
         rw [List.take_length,mkI_congr (g := wv ⟨al,(N : Int),mr,ed⟩ lim (k + 1)) (fun s _ => by
          unfold wv
          rw [ledV_succ HR.out k (s : Int) (Int.natCast_nonneg _)])] at h
         exact h
        clear S
        gi_wp2
        gi_roundg (gk - 1)
        case measure => omega
        case rel => exact ⟨k + 1,g2,es2,by omega,rfl,RK2.out,S5.out⟩
   · have RK2 := Lib.hid hr2
     have S3 : Hid (Sep w0.heap.size w0 ([eBlk g 3 (mkI N (wv ⟨al,(N : Int),mr,ed⟩ lim k))] ++ es2) W3) := S2
     clear hr2 S2 HRR hy S RK
     gi_wp2
     go_end0
     exact ⟨⟨_,rfl⟩,.inr ⟨es2,RK2.out,S3.out.drop1⟩⟩
end Go.Proofs.YtkifgffhoenaoaaDoor

namespace Go.Proofs.YtkifgffhoenaoaaDoor
open Go.RowKit
set_option linter.unusedSimpArgs false
set_option linter.unusedVariables false
set_option maxHeartbeats 400000 in
theorem equalI_c (A1 A2 : Option Addr) (c1 c2 : Nat) (l1 l2 : List Int) (w : World) (h1 : IntsAt w A1 l1) (h2 : IntsAt w A2 l2) (n1 : l1.length ≤ 140737488355328) (n2 : l2.length ≤ 140737488355328) :
 Calls Tryd.prog 64 #[.slice A1 l1.length c1,.slice A2 l2.length c2] w (Tells (l1 = l2) w) := by
 have H1 := Lib.hid h1
 have H2 := Lib.hid h2
 clear h1 h2
 by_cases hl : l1.length = l2.length
 · go_enter Tryd.func64,Tryd.ntmps64
   have HL := Lib.hid hl
   rw [← hl]
   clear hl n2
   go_wp2
   go_loopw [13] (fun i wr => ∃ k : Nat,k ≤ l1.length ∧ i = .int .i64 k ∧ Hid (Below w.heap.size w wr) ∧ Hid (l1.take k = l2.take k)) (fun i _ => l1.length - (intOf i).toNat)
   case atStart => exact ⟨0,by omega,rfl,Below.refl _ _,rfl⟩
   case round =>
    obtain ⟨k,hk,rfl,BW,HN⟩ := hrel
    by_cases hlt : k < l1.length
    · obtain ⟨b,off,x,rfl,hb,hx,e0⟩ := IntsAt.at (H1.out.below IntE.stays BW.out) hlt
      obtain ⟨b2,off2,y,rfl,hb2,hy,g0⟩ := IntsAt.at (H2.out.below IntE.stays BW.out) (HL.out ▸ hlt)
      have HX := Lib.hid hx
      have HY := Lib.hid hy
      clear hx hy
      by_cases hxy : x = y
      · subst hxy
        go_wp2_with fail
        go_quiet (fail)
        go_wp2
        go_roundw
        case rel => exact ⟨k + 1,by omega,by go_num,BW.out.draws _,Lib.hid (by rw [List.take_add_one,List.take_add_one,HN.out,HX.out,HY.out])⟩
        case measure => simp [intOf]; omega
      · have hne : (x == y) = false := by simpa using hxy
        go_wp2_with fail
        go_quiet (fail)
        go_wp2
        go_ret
        exact Tells.no (fun h => by subst h; have := HX.out; rw [HY.out] at this; cases this; exact hxy rfl) (BW.out.draws _)
    · obtain rfl : k = l1.length := by omega
      go_wp2
      go_ret
      exact Tells.yes (by have := HN.out; rw [List.take_length,HL.out,List.take_length] at this; exact this) BW.out
 · have hne : ((l1.length : Int) == (l2.length : Int)) = false := by rw [beq_eq_false_iff_ne]; omega
   go_enter Tryd.func64,Tryd.ntmps64
   go_wp2
   go_ret
   exact Tells.no (fun h => hl (by rw [h])) (Below.refl _ _)
end Go.Proofs.YtkifgffhoenaoaaDoor

namespace Go.Proofs.YtkifgffhoenaoaaDoor
open Go.RowKit
set_option linter.unusedSimpArgs false
set_option linter.unusedVariables false
set_option maxRecDepth 100000
def mergeV (f : Bool → Bool → Bool) : List Int → List Int → List Int
 | [],[] => []
 | x :: a,[] => if f true false then x :: mergeV f a [] else mergeV f a []
 | [],y :: b => if f false true then y :: mergeV f [] b else mergeV f [] b
 | x :: a,y :: b =>
   if x < y then (if f true false then x :: mergeV f a (y :: b) else mergeV f a (y :: b))
   else if y < x then (if f false true then y :: mergeV f (x :: a) b else mergeV f (x :: a) b)
   else (if f true true then y :: mergeV f a b else mergeV f a b)
 termination_by a b => a.length + b.length
def inA (a b : List Int) : Bool := match a,b with
 | [],_ => false
 | _ :: _,[] => true
 | x :: _,y :: _ => decide (x ≤ y)
def hdV (a b : List Int) : Int := if inA b a then b.headD 0 else a.headD 0
def dropV (p : Bool) (a : List Int) : List Int := if p then a.tail else a
theorem mergeV_step (f : Bool → Bool → Bool) (a b : List Int) (h : 0 < a.length ∨ 0 < b.length) :
 mergeV f a b = (if f (inA a b) (inA b a) then [hdV a b] else []) ++ mergeV f (dropV (inA a b) a) (dropV (inA b a) b) := by
 cases a with
 | nil =>
   cases b with
   | nil => simp at h
   | cons y b => rw [mergeV]; cases hf : f false true <;> simp [inA,hdV,dropV,hf]
 | cons x a =>
   cases b with
   | nil => rw [mergeV]; cases hf : f true false <;> simp [inA,hdV,dropV,hf]
   | cons y b =>
     rw [mergeV]
     by_cases h1 : x < y
     · have h2 : ¬ y ≤ x := by omega
       have h3 : x ≤ y := by omega
       cases hf : f true false <;> simp [inA,hdV,dropV,h1,h2,h3,hf]
     · by_cases h4 : y < x
       · have h2 : y ≤ x := by omega
         have h3 : ¬ x ≤ y := by omega
         cases hf : f false true <;> simp [inA,hdV,dropV,h1,h2,h3,h4,hf]
       · have h2 : y ≤ x := by omega
         have h3 : x ≤ y := by omega
         cases hf : f true true <;> simp [inA,hdV,dropV,h1,h2,h3,h4,hf]
theorem inA_some {a b : List Int} (h : inA a b = true) : ∃ x r,a = x :: r := by
 cases a with
 | nil => simp [inA] at h
 | cons x r => exact ⟨x,r,rfl⟩
theorem inA_one {a b : List Int} (h : 0 < a.length ∨ 0 < b.length) : inA a b = true ∨ inA b a = true := by
 cases a with
 | nil => cases b with
   | nil => simp at h
   | cons y b => right; rfl
 | cons x a => cases b with
   | nil => left; rfl
   | cons y b => by_cases hxy : x ≤ y
                 · left; simp [inA,hxy]
                 · right; simp [inA]; omega
theorem mergeV_len (f : Bool → Bool → Bool) : ∀ (n : Nat) (a b : List Int),a.length + b.length ≤ n → (mergeV f a b).length ≤ n := by
 intro n
 induction n with
 | zero => intro a b h; obtain rfl : a = [] := List.length_eq_zero_iff.1 (by omega); obtain rfl : b = [] := List.length_eq_zero_iff.1 (by omega); simp [mergeV]
 | succ n ih =>
   intro a b h
   by_cases h0 : 0 < a.length ∨ 0 < b.length
   · rw [mergeV_step f a b h0,List.length_append]
     have h1 : (if f (inA a b) (inA b a) then [hdV a b] else ([] : List Int)).length ≤ 1 := by split <;> simp
     have h2 : (dropV (inA a b) a).length + (dropV (inA b a) b).length ≤ n := by
      rcases inA_one h0 with h2 | h2
      · obtain ⟨x,r,rfl⟩ := inA_some h2
        rw [h2]
        have : (dropV (inA b (x :: r)) b).length ≤ b.length := by unfold dropV; split <;> simp
        simp only [dropV,if_true,List.tail_cons,List.length_cons] at *
        omega
      · obtain ⟨x,r,rfl⟩ := inA_some h2
        rw [h2]
        have : (dropV (inA a (x :: r)) a).length ≤ a.length := by unfold dropV; split <;> simp
        simp only [dropV,if_true,List.tail_cons,List.length_cons] at *
        omega
     have := ih _ _ h2
     omega
   · obtain rfl : a = [] := List.length_eq_zero_iff.1 (by omega)
     obtain rfl : b = [] := List.length_eq_zero_iff.1 (by omega)
     simp [mergeV]
theorem IntsAt.tail {w : World} {g off : Nat} {x : Int} {l : List Int} {cap : Nat} (h : IntsAt w (some ⟨g,off,none⟩) (x :: l)) (hc : (x :: l).length ≤ cap) : ∃ A,(if cap = 1 then some (⟨g,off,none⟩ : Addr) else some ⟨g,off + 1,none⟩) = some A ∧ IntsAt w (some A) l ∧ l.length ≤ cap - 1 := by
 simp only [List.length_cons] at hc
 by_cases h1 : cap = 1
 · subst h1
   obtain rfl : l = [] := List.length_eq_zero_iff.1 (by omega)
   exact ⟨⟨g,off,none⟩,by simp,SlAt.nil,by simp⟩
 · refine ⟨⟨g,off + 1,none⟩,by simp [h1],?_,by omega⟩
   intro hne
   obtain ⟨b,o,e,hb,hr⟩ := h (by simp)
   cases e
   refine ⟨_,_,rfl,hb,fun i y hy => ?_⟩
   obtain ⟨vs,h1,h2,h3⟩ := hr (i + 1) y (by simpa using hy)
   refine ⟨vs,h1,h2,fun j v hj => ?_⟩
   have := h3 j v hj
   rw [show off + 1 + i * 1 + j = off + (i + 1) * 1 + j by omega]
   exact this

theorem union1_c (a b : Bool) (w : World) : Calls Tryd.prog 83 #[.bool a,.bool b] w (Ret (.bool (a || b)) w) := by
 cases a <;> cases b
 all_goals
  go_enter Tryd.func83,Tryd.ntmps83
  go_wp2
  go_ret
  exact ⟨rfl,Below.refl _ _⟩
def GivesMg (l : List Int) (w : World) (e : Ending) (w' : World) : Prop := ∃ A c,e = .returned (.slice A l.length c) ∧ Hid (OwnI w.heap.size l (.slice A l.length c) w') ∧ Below w.heap.size w w'
set_option maxHeartbeats 4000000 in
theorem merge_c (A B : Option Addr) (cA cB : Nat) (a b : List Int) (g : Nat) (f : Bool → Bool → Bool) (eg : ∀ args w,(callFunc g args).run Tryd.prog w = .ok (.enter g args) w) (w : World) (hf : ∀ (V : World) (p q : Bool),Calls Tryd.prog g #[.bool p,.bool q] V (Ret (.bool (f p q)) V))
 (hA : IntsAt w A a) (hB : IntsAt w B b) (ha : a.length ≤ cA) (hb : b.length ≤ cB) (la : a.length + b.length ≤ 100000) :
 Calls Tryd.prog 82 #[.slice A a.length cA,.slice B b.length cB,.func (.func g) #[] #[]] w (GivesMg (mergeV f a b) w) := by
 have HA := Lib.hid hA
 have HB := Lib.hid hB
 have HF := Lib.hid hf
 have ML := Lib.hid (mergeV_len f _ a b (Nat.le_refl _))
 clear hA hB hf
 go_enter Tryd.func82,Tryd.ntmps82
 go_wp2_with fail
 go_loopw [0,1,7] (fun v0 v1 v7 wr => ∃ (A' B' : Option Addr) (na nb cA' cB' : Nat) (a' b' acc : List Int),v0 = .slice A' na cA' ∧ v1 = .slice B' nb cB' ∧ na = a'.length ∧ nb = b'.length ∧ na ≤ cA' ∧ nb ≤ cB' ∧ na ≤ a.length ∧ nb ≤ b.length ∧ Hid (IntsAt w A' a') ∧ Hid (IntsAt w B' b') ∧ Hid (OwnI w.heap.size acc v7 wr) ∧ Hid (Fro w.heap.size w wr) ∧ Hid (acc ++ mergeV f a' b' = mergeV f a b)) (fun v0 v1 _ _ => (match v0 with | .slice _ n _ => n | _ => 0) + (match v1 with | .slice _ n _ => n | _ => 0))
 case atStart => exact ⟨A,B,a.length,b.length,cA,cB,a,b,[],rfl,rfl,rfl,rfl,ha,hb,Nat.le_refl _,Nat.le_refl _,HA.out,HB.out,Own.nil _,Fro.here w,rfl⟩
 case round =>
  obtain ⟨A',B',na,nb,cA',cB',a',b',acc,rfl,rfl,hna,hnb,hca,hcb,hla,hlb,XA,XB,O,R,E⟩ := hrel
  have hacc : acc.length ≤ a.length + b.length := by have := congrArg List.length E.out; rw [List.length_append] at this; have := ML.out; omega
  by_cases h0 : na = 0 ∧ nb = 0
  · obtain ⟨rfl,rfl⟩ := h0
    have EN : Hid (acc = mergeV f a b) := by
     have := E.out
     rw [List.length_eq_zero_iff.1 hna.symm,List.length_eq_zero_iff.1 hnb.symm] at this
     simpa [Hid,mergeV] using this
    obtain ⟨AO,cO,rfl⟩ := O.out.form
    go_wp2_with fail
    refine bodyPost_ret (v := .slice AO acc.length cO) (by simp [results,Tryd.results82,go_sem]) rfl ?_
    exact ⟨AO,cO,by rw [← EN.out],by rw [← EN.out]; exact O.out,R.out.b⟩
  · have e1 : 0 < a'.length ∨ 0 < b'.length := by omega
    have ES : Hid (acc ++ ((if f (inA a' b') (inA b' a') then [hdV a' b'] else []) ++ mergeV f (dropV (inA a' b') a') (dropV (inA b' a') b')) = mergeV f a b) := by rw [Hid,← mergeV_step f a' b' e1]; exact E.out
    have XA2 := Lib.hid (XA.out.below IntE.stays R.out.b)
    have XB2 := Lib.hid (XB.out.below IntE.stays R.out.b)
    clear E e1
    have HNA := Lib.hid hna
    have HNB := Lib.hid hnb
    clear hna hnb
    cases a' with
    | nil =>
      cases b' with
      | nil => exact absurd ⟨HNA.out,HNB.out⟩ h0
      | cons y rb =>
        obtain rfl : na = 0 := HNA.out
        have pb : 0 < nb := by rw [HNB.out]; simp
        have zb : ¬ nb = 0 := by omega
        obtain ⟨gb,ob,y',hBe,_,hy,cb⟩ := IntsAt.at XB2.out (show 0 < (y :: rb).length by simp)
        obtain rfl : y = y' := by simpa using hy
        subst hBe
        rw [Nat.add_zero] at cb
        clear hy h0
        have i1 : inA [] (y :: rb) = false := rfl
        have i2 : inA (y :: rb) [] = true := rfl
        by_cases hB1 : cB' = 1
        all_goals
         go_wp2_with fail
         go_quiet (fail)
         go_wp2_with fail
         go_quiet (fail)
         go_wp2_with fail
         go_quiet (fail)
         go_wp2_with fail
         all_goals
          refine (HF.out _ false true).mono ?_
          rintro e w3 ⟨rfl,hb3⟩
          have R4 := Lib.hid (R.out.next ((Below.refl wr.heap.size wr).draws _ |>.trans hb3))
          have O4 : Hid (OwnI w.heap.size acc u7 w3) := Own.below O.out ((Below.refl wr.heap.size wr).draws _ |>.trans hb3) (Nat.le_refl _)
          clear hb3
          have ES2 : Hid (acc ++ ((if f false true = true then [y] else []) ++ mergeV f [] rb) = mergeV f a b) := by
           have h2 := ES.out
           unfold hdV at h2
           rw [i1,i2] at h2
           exact h2
          obtain ⟨TB,hTB,YB,hcb2⟩ := XB.out.tail (cap := cB') (by rw [← HNB.out]; exact hcb)
          have lnb : rb.length + 1 = nb := HNB.out.symm
          first | rw [if_pos hB1] at hTB | rw [if_neg hB1] at hTB
          cases hTB
          generalize f false true = k at *
          cases k
          · go_wp2_with fail
            go_roundw
            case rel => exact ⟨_,_,_,nb - 1,_,_,[],rb,acc,rfl,rfl,HNA.out,by omega,by omega,by omega,by omega,by omega,XA.out,YB,O4.out,R4.out,by have := ES2; simpa [Hid] using this⟩
            case measure => simp; omega
          · go_wp2_with (at_builtin; refine wpList_push rfl _ _ 32 rfl (O4.out.alloc _) Tryd.underlying32 _ 8 intInfo rfl (by decide) rfl y _ rfl rfl (one_cell _ _ [_] _ rfl) (encI_one _) (by omega) (by decide) (R4.out.alloc _).z ?_)
            intro A2 c2 w5 ho hg hat5
            have R5 := Lib.hid ((R4.out.alloc _).push (O4.out.alloc _) hg)
            have O5 := Lib.hid ho
            clear ho hg hat5
            go_wp2_with fail
            go_roundw
            case rel => exact ⟨_,_,_,nb - 1,_,_,[],rb,acc ++ [y],rfl,rfl,HNA.out,by omega,by omega,by omega,by omega,by omega,XA.out,YB,O5.out,R5.out,by have := ES2; simpa [Hid] using this⟩
            case measure => simp; omega
    | cons x ra =>
      have pa : 0 < na := by rw [HNA.out]; simp
      have za : ¬ na = 0 := by omega
      obtain ⟨ga,oa,x',hAe,_,hx,ca⟩ := IntsAt.at XA2.out (show 0 < (x :: ra).length by simp)
      obtain rfl : x = x' := by simpa using hx
      subst hAe
      rw [Nat.add_zero] at ca
      clear hx h0
      cases b' with
      | nil =>
        obtain rfl : nb = 0 := HNB.out
        have i1 : inA (x :: ra) [] = true := rfl
        have i2 : inA [] (x :: ra) = false := rfl
        by_cases hA1 : cA' = 1
        all_goals
         go_wp2_with fail
         go_quiet (fail)
         go_wp2_with fail
         go_quiet (fail)
         go_wp2_with fail
         go_quiet (fail)
         go_wp2_with fail
         all_goals
          refine (HF.out _ true false).mono ?_
          rintro e w3 ⟨rfl,hb3⟩
          have R4 := Lib.hid (R.out.next ((Below.refl wr.heap.size wr).draws _ |>.trans hb3))
          have O4 : Hid (OwnI w.heap.size acc u7 w3) := Own.below O.out ((Below.refl wr.heap.size wr).draws _ |>.trans hb3) (Nat.le_refl _)
          clear hb3
          have ES2 : Hid (acc ++ ((if f true false = true then [x] else []) ++ mergeV f ra []) = mergeV f a b) := by
           have h2 := ES.out
           unfold hdV at h2
           rw [i1,i2] at h2
           exact h2
          obtain ⟨TA,hTA,YA,hca2⟩ := XA.out.tail (cap := cA') (by rw [← HNA.out]; exact hca)
          have lna : ra.length + 1 = na := HNA.out.symm
          first | rw [if_pos hA1] at hTA | rw [if_neg hA1] at hTA
          cases hTA
          generalize f true false = k at *
          cases k
          · go_wp2_with fail
            go_roundw
            case rel => exact ⟨_,_,na - 1,_,_,_,ra,[],acc,rfl,rfl,by omega,HNB.out,by omega,by omega,by omega,by omega,YA,XB.out,O4.out,R4.out,by have := ES2; simpa [Hid] using this⟩
            case measure => simp; omega
          · go_wp2_with (at_builtin; refine wpList_push rfl _ _ 32 rfl (O4.out.alloc _) Tryd.underlying32 _ 8 intInfo rfl (by decide) rfl x _ rfl rfl (one_cell _ _ [_] _ rfl) (encI_one _) (by omega) (by decide) (R4.out.alloc _).z ?_)
            intro A2 c2 w5 ho hg hat5
            have R5 := Lib.hid ((R4.out.alloc _).push (O4.out.alloc _) hg)
            have O5 := Lib.hid ho
            clear ho hg hat5
            go_wp2_with fail
            go_roundw
            case rel => exact ⟨_,_,na - 1,_,_,_,ra,[],acc ++ [x],rfl,rfl,by omega,HNB.out,by omega,by omega,by omega,by omega,YA,XB.out,O5.out,R5.out,by have := ES2; simpa [Hid] using this⟩
            case measure => simp; omega
      | cons y rb =>
        have pb : 0 < nb := by rw [HNB.out]; simp
        have zb : ¬ nb = 0 := by omega
        obtain ⟨gb,ob,y',hBe,_,hy,cb⟩ := IntsAt.at XB2.out (show 0 < (y :: rb).length by simp)
        obtain rfl : y = y' := by simpa using hy
        subst hBe
        rw [Nat.add_zero] at cb
        clear hy
        by_cases hxy : x < y
        · skip
          have i1 : inA (x :: ra) (y :: rb) = true := by show decide (x ≤ y) = true; simp; omega
          have i2 : inA (y :: rb) (x :: ra) = false := by show decide (y ≤ x) = false; simp; omega
          have q1 : decide (x ≤ y) = true := i1
          have q2 : decide (y ≤ x) = false := i2
          by_cases hA1 : cA' = 1
          all_goals
           go_wp2_with fail
           go_quiet (fail)
           go_wp2_with fail
           go_quiet (fail)
           go_wp2_with fail
           go_quiet (fail)
           go_wp2_with fail
           all_goals
            refine (HF.out _ true false).mono ?_
            rintro e w3 ⟨rfl,hb3⟩
            have R4 := Lib.hid (R.out.next ((Below.refl wr.heap.size wr).draws _ |>.trans hb3))
            have O4 : Hid (OwnI w.heap.size acc u7 w3) := Own.below O.out ((Below.refl wr.heap.size wr).draws _ |>.trans hb3) (Nat.le_refl _)
            clear hb3
            have ES2 : Hid (acc ++ ((if f true false = true then [x] else []) ++ mergeV f ra (y :: rb)) = mergeV f a b) := by
             have h2 := ES.out
             unfold hdV at h2
             rw [i1,i2] at h2
             exact h2
            obtain ⟨TA,hTA,YA,hca2⟩ := XA.out.tail (cap := cA') (by rw [← HNA.out]; exact hca)
            have lna : ra.length + 1 = na := HNA.out.symm
            first | rw [if_pos hA1] at hTA | rw [if_neg hA1] at hTA
            cases hTA
            generalize f true false = k at *
            cases k
            · go_wp2_with fail
              go_roundw
              case rel => exact ⟨_,_,na - 1,nb,_,_,ra,(y :: rb),acc,rfl,rfl,by omega,HNB.out,by omega,by omega,by omega,by omega,YA,XB.out,O4.out,R4.out,by have := ES2; simpa [Hid] using this⟩
              case measure => simp; omega
            · go_wp2_with (at_builtin; refine wpList_push rfl _ _ 32 rfl (O4.out.alloc _) Tryd.underlying32 _ 8 intInfo rfl (by decide) rfl x _ rfl rfl (one_cell _ _ [_] _ rfl) (encI_one _) (by omega) (by decide) (R4.out.alloc _).z ?_)
              intro A2 c2 w5 ho hg hat5
              have R5 := Lib.hid ((R4.out.alloc _).push (O4.out.alloc _) hg)
              have O5 := Lib.hid ho
              clear ho hg hat5
              go_wp2_with fail
              go_roundw
              case rel => exact ⟨_,_,na - 1,nb,_,_,ra,(y :: rb),acc ++ [x],rfl,rfl,by omega,HNB.out,by omega,by omega,by omega,by omega,YA,XB.out,O5.out,R5.out,by have := ES2; simpa [Hid] using this⟩
              case measure => simp; omega
        · by_cases hyx : y < x
          · skip
            have i1 : inA (x :: ra) (y :: rb) = false := by show decide (x ≤ y) = false; simp; omega
            have i2 : inA (y :: rb) (x :: ra) = true := by show decide (y ≤ x) = true; simp; omega
            have q1 : decide (x ≤ y) = false := i1
            have q2 : decide (y ≤ x) = true := i2
            by_cases hB1 : cB' = 1
            all_goals
             go_wp2_with fail
             go_quiet (fail)
             go_wp2_with fail
             go_quiet (fail)
             go_wp2_with fail
             go_quiet (fail)
             go_wp2_with fail
             all_goals
              refine (HF.out _ false true).mono ?_
              rintro e w3 ⟨rfl,hb3⟩
              have R4 := Lib.hid (R.out.next ((Below.refl wr.heap.size wr).draws _ |>.trans hb3))
              have O4 : Hid (OwnI w.heap.size acc u7 w3) := Own.below O.out ((Below.refl wr.heap.size wr).draws _ |>.trans hb3) (Nat.le_refl _)
              clear hb3
              have ES2 : Hid (acc ++ ((if f false true = true then [y] else []) ++ mergeV f (x :: ra) rb) = mergeV f a b) := by
               have h2 := ES.out
               unfold hdV at h2
               rw [i1,i2] at h2
               exact h2
              obtain ⟨TB,hTB,YB,hcb2⟩ := XB.out.tail (cap := cB') (by rw [← HNB.out]; exact hcb)
              have lnb : rb.length + 1 = nb := HNB.out.symm
              first | rw [if_pos hB1] at hTB | rw [if_neg hB1] at hTB
              cases hTB
              generalize f false true = k at *
              cases k
              · go_wp2_with fail
                go_roundw
                case rel => exact ⟨_,_,na,nb - 1,_,_,(x :: ra),rb,acc,rfl,rfl,HNA.out,by omega,by omega,by omega,by omega,by omega,XA.out,YB,O4.out,R4.out,by have := ES2; simpa [Hid] using this⟩
                case measure => simp; omega
              · go_wp2_with (at_builtin; refine wpList_push rfl _ _ 32 rfl (O4.out.alloc _) Tryd.underlying32 _ 8 intInfo rfl (by decide) rfl y _ rfl rfl (one_cell _ _ [_] _ rfl) (encI_one _) (by omega) (by decide) (R4.out.alloc _).z ?_)
                intro A2 c2 w5 ho hg hat5
                have R5 := Lib.hid ((R4.out.alloc _).push (O4.out.alloc _) hg)
                have O5 := Lib.hid ho
                clear ho hg hat5
                go_wp2_with fail
                go_roundw
                case rel => exact ⟨_,_,na,nb - 1,_,_,(x :: ra),rb,acc ++ [y],rfl,rfl,HNA.out,by omega,by omega,by omega,by omega,by omega,XA.out,YB,O5.out,R5.out,by have := ES2; simpa [Hid] using this⟩
                case measure => simp; omega
          · skip
            have i1 : inA (x :: ra) (y :: rb) = true := by show decide (x ≤ y) = true; simp; omega
            have i2 : inA (y :: rb) (x :: ra) = true := by show decide (y ≤ x) = true; simp; omega
            have q1 : decide (x ≤ y) = true := i1
            have q2 : decide (y ≤ x) = true := i2
            by_cases hA1 : cA' = 1
            all_goals by_cases hB1 : cB' = 1
            all_goals skip
            all_goals
             go_wp2_with fail
             go_quiet (fail)
             go_wp2_with fail
             go_quiet (fail)
             go_wp2_with fail
             go_quiet (fail)
             go_wp2_with fail
             all_goals go_quiet (fail)
             all_goals go_wp2_with fail
             all_goals
              refine (HF.out _ true true).mono ?_
              rintro e w3 ⟨rfl,hb3⟩
              have R4 := Lib.hid (R.out.next ((Below.refl wr.heap.size wr).draws _ |>.trans hb3))
              have O4 : Hid (OwnI w.heap.size acc u7 w3) := Own.below O.out ((Below.refl wr.heap.size wr).draws _ |>.trans hb3) (Nat.le_refl _)
              clear hb3
              have ES2 : Hid (acc ++ ((if f true true = true then [y] else []) ++ mergeV f ra rb) = mergeV f a b) := by
               have h2 := ES.out
               unfold hdV at h2
               rw [i1,i2] at h2
               exact h2
              obtain ⟨TA,hTA,YA,hca2⟩ := XA.out.tail (cap := cA') (by rw [← HNA.out]; exact hca)
              have lna : ra.length + 1 = na := HNA.out.symm
              first | rw [if_pos hA1] at hTA | rw [if_neg hA1] at hTA
              cases hTA
              obtain ⟨TB,hTB,YB,hcb2⟩ := XB.out.tail (cap := cB') (by rw [← HNB.out]; exact hcb)
              have lnb : rb.length + 1 = nb := HNB.out.symm
              first | rw [if_pos hB1] at hTB | rw [if_neg hB1] at hTB
              cases hTB
              generalize f true true = k at *
              cases k
              · go_wp2_with fail
                go_roundw
                case rel => exact ⟨_,_,na - 1,nb - 1,_,_,ra,rb,acc,rfl,rfl,by omega,by omega,by omega,by omega,by omega,by omega,YA,YB,O4.out,R4.out,by have := ES2; simpa [Hid] using this⟩
                case measure => simp; omega
              · go_wp2_with (at_builtin; refine wpList_push rfl _ _ 32 rfl (O4.out.alloc _) Tryd.underlying32 _ 8 intInfo rfl (by decide) rfl y _ rfl rfl (one_cell _ _ [_] _ rfl) (encI_one _) (by omega) (by decide) (R4.out.alloc _).z ?_)
                intro A2 c2 w5 ho hg hat5
                have R5 := Lib.hid ((R4.out.alloc _).push (O4.out.alloc _) hg)
                have O5 := Lib.hid ho
                clear ho hg hat5
                go_wp2_with fail
                go_roundw
                case rel => exact ⟨_,_,na - 1,nb - 1,_,_,ra,rb,acc ++ [y],rfl,rfl,by omega,by omega,by omega,by omega,by omega,by omega,YA,YB,O5.out,R5.out,by have := ES2; simpa [Hid] using this⟩
                case measure => simp; omega
end Go.Proofs.YtkifgffhoenaoaaDoor

namespace Go.Proofs.YtkifgffhoenaoaaDoor
open Go.RowKit
set_option linter.unusedSimpArgs false
set_option linter.unusedVariables false
set_option maxRecDepth 100000

def GivesMach (a : Au) (w : World) (e : Ending) (w' : World) : Prop := ∃ b m1 m2,e = .returned (.pointer (some ⟨b,0,none⟩)) ∧ (w.heap.size ≤ b ∧ w.heap.size ≤ m1 ∧ w.heap.size ≤ m2) ∧ Hid (Mach3 w' b m1 m2 a) ∧ Below w.heap.size w w'
structure MachUp (W w : World) (B b m1 m2 : Nat) (st : Int) (ed : List Ed) (mr : List Int) : Prop where
 blk : BlkAt w b 104 [.map (some m1),.map (some m2),.int .i64 st]
 f1 : MapG key2 veI w m1 (stepOf ed)
 f2 : MapG keyI veB w m2 (setF mr)
 fro : Fro B W w
 ne : m1 ≠ m2 ∧ b ≠ m1 ∧ b ≠ m2 ∧ B ≤ m1 ∧ B ≤ m2 ∧ B ≤ b
section
variable {W w w' : World} {B b m1 m2 : Nat} {st : Int} {ed : List Ed} {mr : List Int}
theorem MachUp.alloc (h : MachUp W w B b m1 m2 st ed mr) (o : Obj) : MachUp W (w.alloc o) B b m1 m2 st ed mr := ⟨h.blk.alloc o,h.f1.alloc o,h.f2.alloc o,h.fro.alloc o,h.ne⟩
theorem MachUp.drew (h : MachUp W w B b m1 m2 st ed mr) : MachUp W w.drew B b m1 m2 st ed mr := ⟨h.blk,h.f1,h.f2,h.fro.drew,h.ne⟩
end
theorem MapG.far {κ β : Type} [DecidableEq κ] {key : κ → Value} {ve : β → Value} {w w' : World} {b b' : Nat} {f : κ → Option β} (h : MapG key ve w b f) (hg : w.grownBy w' (some b')) (hne : b ≠ b') : MapG key ve w' b f := by
 have hlt := h.lt
 obtain ⟨l,c,h1,h2⟩ := h
 exact ⟨l,c,(hg.block b hlt (fun e => hne (Option.some.inj e))).trans h1,h2⟩

set_option maxHeartbeats 2000000 in
theorem open_c (a : Au) (p : AuP) (w : World) (h : Au.At w a p) :
 Calls Tryd.prog 39 #[a.val p] w (GivesMach a w) := by
 obtain ⟨al,n,mr,ed⟩ := a
 obtain ⟨A1,c1,A2,c2,A3,c3⟩ := p
 try dsimp only [Au.val] at *
 have H := Lib.hid h
 have lmk := h.lmk
 have led := h.led
 simp only at lmk led
 clear h
 have hmm := @run_makeMap Tryd.prog
 have W0 : Hid (Fro (w.heap.size + 1) (w.alloc (.cells #[.slice A1 al.length c1,.int .i64 n,.slice A2 mr.length c2,.slice A3 ed.length c3] 35)) (w.alloc (.cells #[.slice A1 al.length c1,.int .i64 n,.slice A2 mr.length c2,.slice A3 ed.length c3] 35))) := Fro.refl (by simp)
 have B0 : Hid (Below w.heap.size w (w.alloc (.cells #[.slice A1 al.length c1,.int .i64 n,.slice A2 mr.length c2,.slice A3 ed.length c3] 35))) := Below.new _ _
 have D0 : Hid (HasAt w.heap.size [.slice A1 al.length c1,.int .i64 n,.slice A2 mr.length c2,.slice A3 ed.length c3] (w.alloc (.cells #[.slice A1 al.length c1,.int .i64 n,.slice A2 mr.length c2,.slice A3 ed.length c3] 35))) := HasAt.new w _ _ rfl
 have HS : Hid ((w.alloc (.cells #[.slice A1 al.length c1,.int .i64 n,.slice A2 mr.length c2,.slice A3 ed.length c3] 35)).heap.size = w.heap.size + 1) := by simp [Hid]
 go_enter Tryd.func39,Tryd.ntmps39
 go_upto_region 2 with fail
 generalize hW : w.alloc (.cells #[.slice A1 al.length c1,.int .i64 n,.slice A2 mr.length c2,.slice A3 ed.length c3] 35) = W at *
 clear hW
 have M0 : Hid (MachUp W (((W.alloc (.map #[] 0)).alloc (.map #[] 0)).alloc (.cells #[.map (some (w.heap.size + 1)),.map (some (w.heap.size + 1 + 1)),.int .i64 0] 104)) (w.heap.size + 1) (w.heap.size + 1 + 1 + 1) (w.heap.size + 1) (w.heap.size + 1 + 1) 0 [] []) := by
  have e1 : w.heap.size + 1 = W.heap.size := HS.out.symm
  have e2 : w.heap.size + 1 + 1 = (W.alloc (.map #[] 0)).heap.size := by simp [e1]
  have e3 : w.heap.size + 1 + 1 + 1 = ((W.alloc (.map #[] 0)).alloc (.map #[] 0)).heap.size := by simp [e1]
  refine ⟨?_,?_,?_,((W0.out.alloc _).alloc _).alloc _,by omega⟩
  · rw [e3]; exact BlkAt.new _ _ [_,_,_]
  · have := (MapG.made key2 veI W).alloc (.map #[] 0)
    rw [← e1] at this
    exact (this.alloc _).congr (fun x => rfl)
  · have := MapG.made keyI veB (W.alloc (.map #[] 0))
    rw [← e2] at this
    exact (this.alloc _).congr (fun x => by simp [setF])
 have DX : Hid (∀ V,Fro (w.heap.size + 1) W V → HasAt w.heap.size [.slice A1 al.length c1,.int .i64 n,.slice A2 mr.length c2,.slice A3 ed.length c3] V) := fun V hb => D0.out.fro hb (Nat.lt_succ_self _)
 have HX : Hid (∀ V,Fro (w.heap.size + 1) W V → Au.At V ⟨al,n,mr,ed⟩ ⟨A1,c1,A2,c2,A3,c3⟩) := fun V hb => H.out.below (B0.out.trans (hb.b.mono (by omega)))
 have FX : Hid (∀ V,Fro (w.heap.size + 1) W V → Below w.heap.size w V) := fun V hb => B0.out.trans (hb.b.mono (by omega))
 generalize hV : ((W.alloc (.map #[] 0)).alloc (.map #[] 0)).alloc (.cells #[.map (some (w.heap.size + 1)),.map (some (w.heap.size + 1 + 1)),.int .i64 0] 104) = V at *
 clear hV W0 B0 D0 H
 obtain ⟨m1,hm1⟩ : ∃ m1,m1 = w.heap.size + 1 := ⟨_,rfl⟩
 obtain ⟨m2,hm2⟩ : ∃ m2,m2 = w.heap.size + 1 + 1 := ⟨_,rfl⟩
 obtain ⟨b,hb⟩ : ∃ b,b = w.heap.size + 1 + 1 + 1 := ⟨_,rfl⟩
 rw [← hb,← hm2,← hm1] at M0 ⊢
 rw [← hm1] at DX HX FX
 have HB : Hid (w.heap.size < m1 ∧ w.heap.size ≤ b) := ⟨by omega,by omega⟩
 clear hb hm1 hm2
 obtain ⟨st,hst⟩ : ∃ st,st = Au.st ⟨al,n,mr,ed⟩ := ⟨_,rfl⟩
 have ST := Lib.hid hst
 clear hst
 have d1 := (DX.out V M0.out.fro).c 1 _ rfl
 go_upto_if 14 with fail
 go_cut [2] (fun v wx => v = .pointer none ∧ Hid (MachUp W wx m1 b m1 m2 st [] []))
 case first =>
  have k2 := M0.out.blk.cell 2
  have f2 := M0.out.blk.free 2
  by_cases hn : n = 0
  · have : st = -1 := by rw [ST.out]; exact if_pos hn
    subst hn
    subst this
    have M1 : Hid (MachUp W (V.setCell ⟨b,2,none⟩ (.int .i64 (-1))) m1 b m1 m2 (-1) [] []) := by
     have hg := grownBy_setCells (g := b) [Value.int .i64 (-1)] 2 V
     exact ⟨M0.out.blk.set_ 2 _,M0.out.f1.far hg (fun e => M0.out.ne.2.1 e.symm),M0.out.f2.far hg (fun e => M0.out.ne.2.2.1 e.symm),M0.out.fro.setCell M0.out.ne.2.2.2.2.2 _,M0.out.ne⟩
    go_wp2
    go_meet
    exact ⟨rfl,M1.out⟩
  · have : st = 0 := by rw [ST.out]; exact if_neg hn
    subst this
    have hn' : (n == 0) = false := by simpa using hn
    go_wp2
    go_meet
    exact ⟨rfl,M0.out⟩
 case rest =>
  obtain ⟨rfl,M⟩ := hcut
  clear M0 d1
  have d3 := (DX.out wc M.out.fro).c 3 _ rfl
  go_wp2_with fail
  clear d3
  go_loopw [21] (fun i wr => ∃ k : Nat,k ≤ ed.length ∧ i = .int .i64 k ∧ Hid (MachUp W wr m1 b m1 m2 st (ed.take k) [])) (fun i _ => ed.length - (intOf i).toNat)
  case atStart => exact ⟨0,by omega,rfl,M.out⟩
  case round =>
   clear M
   obtain ⟨k,hk,rfl,M⟩ := hrel
   by_cases hlt : k < ed.length
   · obtain ⟨bb,off,x,hA3,hb3,hx,e0,e1,e2⟩ := EdsAt.at (HX.out wr M.out.fro).ed hlt
     obtain ⟨src,ev,dst⟩ := x
     dsimp only at hA3
     subst hA3
     dsimp only at e0 e1 e2
     have HXE := Lib.hid hx
     clear hx
     have M1 : Hid (MachUp W (wr.alloc (.cells #[.int .i64 src,.int .i64 ev,.int .i64 dst] 87)) m1 b m1 m2 st (ed.take k) []) := M.out.alloc _
     have X1 : Hid (HasAt wr.heap.size [.int .i64 src,.int .i64 ev,.int .i64 dst] (wr.alloc (.cells #[.int .i64 src,.int .i64 ev,.int .i64 dst] 87))) := HasAt.new wr _ _ rfl
     go_upto_region 7 with fail
     generalize hV : wr.alloc (.cells #[.int .i64 src,.int .i64 ev,.int .i64 dst] 87) = V1 at *
     clear hV e0 e1 e2
     have k0 : V1.cell? ⟨b,0,none⟩ = some (.map (some m1)) := M1.out.blk.cell 0
     have x0 := X1.out.c 0 _ rfl
     have x1 := X1.out.c 1 _ rfl
     have x2 := X1.out.c 2 _ rfl
     go_still_tail 11,(by kernel_rfl)
     change wpList _ _ _ _ _ V1.drew
     go_wp2_with (at_mapUpdate; refine wpList_mapUpdate_g _ rfl _ _ _ 101 74 3 rfl _ key2 veI ok2 Tryd.underlying101 m1 (stepOf (ed.take k)) (src,ev) dst rfl M1.out.drew.f1 rfl rfl ?_; intro w1 hm1 hg1; have HM1 := Lib.hid hm1; clear hm1; have HG1 := Lib.hid hg1; clear hg1)
     have M2 : Hid (MachUp W w1 m1 b m1 m2 st (ed.take (k + 1)) []) := by
      have hgb : ∀ c : Nat,c ≠ m1 → some c ≠ some m1 := fun c h e => h (Option.some.inj e)
      refine ⟨M1.out.drew.blk.grown HG1.out (hgb _ M1.out.ne.2.1),HM1.out.congr (fun y => by rw [List.take_add_one,HXE.out]; exact stepOf_snoc _ _ _),M1.out.drew.f2.far HG1.out (fun e => M1.out.ne.1 e.symm),M1.out.drew.fro.grown HG1.out (fun j hj => by cases hj; exact M1.out.ne.2.2.2.1),M1.out.ne⟩
     go_wp2
     go_roundw
     case rel => exact ⟨k + 1,by omega,by go_num,M2.out⟩
     case measure => simp [intOf]; omega
   · obtain rfl : k = ed.length := by omega
     have M1 : Hid (MachUp W wr m1 b m1 m2 st ed []) := by have := M.out; rw [List.take_length] at this; exact this
     clear M
     have d2 := (DX.out wr M1.out.fro).c 2 _ rfl
     go_wp2_with fail
     clear d2
     go_loopw [40] (fun i wx => ∃ k : Nat,k ≤ mr.length ∧ i = .int .i64 k ∧ Hid (MachUp W wx m1 b m1 m2 st ed (mr.take k))) (fun i _ => mr.length - (intOf i).toNat)
     case atStart => exact ⟨0,by omega,rfl,M1.out⟩
     case round =>
      clear M1
      obtain ⟨k,hk,rfl,M⟩ := hrel
      by_cases hlt : k < mr.length
      · obtain ⟨bb,off,x,hA2,hb3,hx,e0⟩ := IntsAt.at (HX.out _ M.out.fro).mr hlt
        dsimp only at hA2
        subst hA2
        have HXE := Lib.hid hx
        clear hx
        have k1 := M.out.blk.cell 1
        go_wp2_with (at_mapUpdate; refine wpList_mapUpdate_g _ rfl _ _ _ 102 3 4 rfl _ keyI veB okI Tryd.underlying102 m2 (setF (mr.take k)) x true rfl M.out.f2 rfl rfl ?_; intro w1 hm1 hg1; have HM1 := Lib.hid hm1; clear hm1; have HG1 := Lib.hid hg1; clear hg1)
        have M2 : Hid (MachUp W w1 m1 b m1 m2 st ed (mr.take (k + 1))) := by
         refine ⟨M.out.blk.grown HG1.out (fun e => M.out.ne.2.2.1 (Option.some.inj e)),M.out.f1.far HG1.out M.out.ne.1,HM1.out.congr (fun y => by rw [List.take_add_one,HXE.out]; exact setF_snoc _ _ _),M.out.fro.grown HG1.out (fun j hj => by cases hj; exact M.out.ne.2.2.2.2.1),M.out.ne⟩
        go_wp2
        go_roundw
        case rel => exact ⟨k + 1,by omega,by go_num,M2.out⟩
        case measure => simp [intOf]; omega
      · obtain rfl : k = mr.length := by omega
        have M1 : Hid (MachUp W wr m1 b m1 m2 st ed mr) := by have := M.out; rw [List.take_length] at this; exact this
        go_wp2
        go_ret
        exact ⟨b,m1,m2,rfl,⟨HB.out.2,by have := HB.out.1; omega,by have := HB.out.1; have := M1.out.ne.2.2.2.2.1; omega⟩,⟨by rw [← ST.out]; exact M1.out.blk,M1.out.f1,M1.out.f2⟩,FX.out _ M1.out.fro⟩
end Go.Proofs.YtkifgffhoenaoaaDoor

namespace Go.Proofs.YtkifgffhoenaoaaDoor
open Go.RowKit
set_option linter.unusedSimpArgs false
set_option linter.unusedVariables false
set_option maxRecDepth 100000

def AuE : Reading Au := fun w a vs => ∃ p : AuP,vs = auCells a p ∧ Au.At w a p
theorem AuE.stays : Stays AuE := fun w w' a vs hb ⟨p,h1,h2⟩ => ⟨p,h1,h2.below hb⟩

set_option maxHeartbeats 1000000 in
theorem check_c (A : Option Addr) (c : Nat) (l : List Au) (kind : Int) (w : World) (h : SlAt AuE 4 w A l) (hl : l.length ≤ 140737488355328) (hr : ∀ a,a ∈ l → a.Right) (hk : kind = 1 ∨ kind = 2) :
 Calls Tryd.prog 38 #[.int .i64 kind,.slice A l.length c] w (Ret (.int .i64 0) w) := by
 have H := Lib.hid h
 have HR := Lib.hid hr
 clear h hr
 go_enter Tryd.func38,Tryd.ntmps38
 go_wp2_with fail
 go_loopw [10] (fun i wr => ∃ k : Nat,k ≤ l.length ∧ i = .int .i64 k ∧ Hid (Fro w.heap.size w wr)) (fun i _ => l.length - (intOf i).toNat)
 case atStart => exact ⟨0,by omega,rfl,Fro.here w⟩
 case round =>
  obtain ⟨k,hkl,rfl,R⟩ := hrel
  by_cases hlt : k < l.length
  · obtain ⟨b,off,a,vs,rfl,hb,ha,hvl,⟨p,hvs,hat⟩,hc⟩ := SlAt.at (H.out.below AuE.stays R.out.b) hlt
    subst hvs
    have q0 : wr.cell? ⟨b,off + k * 4,none⟩ = some (.slice p.A1 a.al.length p.c1) := by simpa using hc 0 _ rfl
    have q1 : wr.cell? ⟨b,off + k * 4 + 1,none⟩ = some (.int .i64 a.n) := hc 1 _ rfl
    have q2 : wr.cell? ⟨b,off + k * 4 + 2,none⟩ = some (.slice p.A2 a.mr.length p.c2) := hc 2 _ rfl
    have q3 : wr.cell? ⟨b,off + k * 4 + 3,none⟩ = some (.slice p.A3 a.ed.length p.c3) := hc 3 _ rfl
    have RT : Hid a.Right := HR.out a (List.mem_of_getElem? ha)
    have C := Lib.hid (Check_c a p (wr.alloc (.cells #[.slice p.A1 a.al.length p.c1,.int .i64 a.n,.slice p.A2 a.mr.length p.c2,.slice p.A3 a.ed.length p.c3] 35)) (hat.below (Below.new _ _)))
    clear ha hc hat hvl
    have R1 : Hid (Fro w.heap.size w (wr.alloc (.cells #[.slice p.A1 a.al.length p.c1,.int .i64 a.n,.slice p.A2 a.mr.length p.c2,.slice p.A3 a.ed.length p.c3] 35))) := R.out.alloc _
    go_wp2_with fail
    refine C.out.mono ?_
    rintro e w2 ⟨r,rfl,hr0,hb2⟩
    obtain rfl : r = 0 := hr0.2 RT.out
    have R2 := Lib.hid (R1.out.next hb2)
    clear hr0 hb2
    go_wp2
    go_roundw
    case rel => exact ⟨k + 1,by omega,by go_num,R2.out⟩
    case measure => simp [intOf]; omega
  · obtain rfl : k = l.length := by omega
    rcases hk with rfl | rfl
    · go_wp2
      go_ret
      exact ⟨rfl,R.out.b⟩
    · go_wp2
      go_ret
      exact ⟨rfl,R.out.b⟩
end Go.Proofs.YtkifgffhoenaoaaDoor

namespace Go.Proofs.YtkifgffhoenaoaaDoor
open Go.RowKit
set_option linter.unusedSimpArgs false
set_option linter.unusedVariables false
set_option maxRecDepth 100000

theorem flat_encI' (l : List Int) : l.flatMap encI = l.map (Value.int .i64) := by
 induction l with
 | nil => rfl
 | cons a l ih => rw [List.flatMap_cons,ih]; rfl
theorem OwnI.set {B g c L : Nat} {l : List Int} {w : World} (h : OwnI B l (.slice (some ⟨g,0,none⟩) L c) w) (hL : l.length = L) (k : Nat) (x : Int) :
 OwnI B (l.set k x) (.slice (some ⟨g,0,none⟩) L c) (w.setCell ⟨g,k,none⟩ (.int .i64 x)) := by
 subst hL
 have := (World.ownsRow.stored h k (.int .i64 x)).1
 unfold OwnI Own
 rw [List.length_set]
 rw [flat_encI',← List.map_set,← flat_encI'] at this
 exact this
theorem OwnI.cell {B g c L : Nat} {l : List Int} {w : World} (h : OwnI B l (.slice (some ⟨g,0,none⟩) L c) w) (hL : l.length = L) {k : Nat} {x : Int} (hx : l[k]? = some x) : w.cell? ⟨g,k,none⟩ = some (.int .i64 x) := by
 subst hL
 have hk := (List.getElem?_eq_some_iff.1 hx).1
 have := World.ownsRow.cellAt h k (by omega)
 rw [this,flat_encI',List.getElem?_map,hx]; rfl
theorem OwnI.frz {B g c L : Nat} {l : List Int} {w : World} (h : OwnI B l (.slice (some ⟨g,0,none⟩) L c) w) (hL : l.length = L) (k : Nat) : w.frozen? ⟨g,k,none⟩ = false := by
 subst hL
 exact World.ownsRow.frozenAt h k

def Turned (l cur : List Int) (i : Nat) : Prop := cur.length = l.length ∧ ∀ t,t < l.length → cur[t]? = if t < i ∨ l.length ≤ t + i then l[l.length - 1 - t]? else l[t]?
theorem Turned.fin {l cur : List Int} {i : Nat} (h : Turned l cur i) (hi : l.length ≤ 2 * i + 1) : cur = l.reverse := by
 apply List.ext_getElem?
 intro t
 by_cases ht : t < l.length
 · rw [h.2 t ht,List.getElem?_reverse ht]
   split
   · rfl
   · congr 1; omega
 · rw [List.getElem?_eq_none (by rw [h.1]; omega),List.getElem?_eq_none (by simp; omega)]
theorem Turned.step {l cur : List Int} {i : Nat} (h : Turned l cur i) (hi : 2 * i + 1 < l.length) {x y : Int} (hx : l[i]? = some x) (hy : l[l.length - 1 - i]? = some y) : Turned l ((cur.set i y).set (l.length - 1 - i) x) (i + 1) := by
 refine ⟨by simp [h.1],fun t ht => ?_⟩
 rw [List.getElem?_set,List.getElem?_set]
 by_cases h1 : l.length - 1 - i = t
 · rw [if_pos h1,if_pos (by rw [List.length_set,h.1]; omega),if_pos (by omega),← h1,show l.length - 1 - (l.length - 1 - i) = i by omega,hx]
 · rw [if_neg h1]
   by_cases h2 : i = t
   · subst h2
     rw [if_pos rfl,if_pos (by rw [h.1]; omega),if_pos (by omega),hy]
   · rw [if_neg h2,h.2 t ht]
     by_cases h3 : t < i ∨ l.length ≤ t + i
     · rw [if_pos h3,if_pos (by omega)]
     · rw [if_neg h3,if_neg (by omega)]

def GivesRev (B : Nat) (l : List Int) (v : Value) (w : World) (e : Ending) (w' : World) : Prop := (∃ u,e = .returned u) ∧ Hid (OwnI B l.reverse v w') ∧ Below B w w'
set_option maxHeartbeats 2000000 in
theorem reverse_c (B : Nat) (l : List Int) (g c : Nat) (w : World) (h : OwnI B l (.slice (some ⟨g,0,none⟩) l.length c) w) (hg : B ≤ g) (hl : l.length ≤ 1048576) :
 Calls Tryd.prog 67 #[.slice (some ⟨g,0,none⟩) l.length c] w (GivesRev B l (.slice (some ⟨g,0,none⟩) l.length c) w) := by
 have H := Lib.hid h
 clear h
 obtain ⟨L,hL⟩ : ∃ L,l.length = L := ⟨_,rfl⟩
 have HL := Lib.hid hL
 rw [hL] at H hl ⊢
 clear hL
 go_enter Tryd.func67,Tryd.ntmps67
 go_wp2_with fail
 go_loopw [2,3] (fun i j wr => ∃ (k : Nat) (cur : List Int),i = .int .i64 k ∧ j = .int .i64 ((L : Int) - 1 - k) ∧ 2 * k ≤ L ∧ Hid (Turned l cur k) ∧ Hid (OwnI B cur (.slice (some ⟨g,0,none⟩) L c) wr) ∧ Hid (Below B w wr)) (fun i _ _ => L - (intOf i).toNat)
 case atStart => exact ⟨0,l,rfl,by first | rfl | simp,by omega,⟨rfl,fun t ht => by rw [if_neg (by omega)]⟩,H.out,Below.refl _ _⟩
 case round =>
  clear H
  obtain ⟨k,cur,rfl,rfl,hk,T,O,R⟩ := hrel
  by_cases hlt : 2 * k + 1 < L
  · obtain ⟨x,hx⟩ : ∃ x,l[k]? = some x := ⟨_,List.getElem?_eq_getElem (by have := HL.out; omega)⟩
    obtain ⟨y,hy⟩ : ∃ y,l[L - 1 - k]? = some y := ⟨_,List.getElem?_eq_getElem (by have := HL.out; omega)⟩
    have CL : Hid (cur.length = L) := T.out.1.trans HL.out
    have hcx : cur[k]? = some x := by rw [T.out.2 k (by have := HL.out; omega),if_neg (by have := HL.out; omega)]; exact hx
    have hcy : cur[L - 1 - k]? = some y := by rw [T.out.2 _ (by have := HL.out; omega),if_neg (by have := HL.out; omega)]; exact hy
    obtain ⟨m,hm⟩ : ∃ m : Nat,m = L - 1 - k := ⟨_,rfl⟩
    have hmi : (L : Int) - 1 - k = (m : Int) := by omega
    rw [← hm] at hcy hy
    have T2 : Hid (Turned l ((cur.set k y).set m x) (k + 1)) := by
     have := T.out.step (x := x) (y := y) (by have := HL.out; omega) hx (by rw [HL.out,← hm]; exact hy)
     rw [HL.out,← hm] at this
     exact this
    have O2 : Hid (OwnI B ((cur.set k y).set m x) (.slice (some ⟨g,0,none⟩) L c) ((wr.setCell ⟨g,k,none⟩ (.int .i64 y)).setCell ⟨g,m,none⟩ (.int .i64 x)).drew) := Own.drew (OwnI.set (OwnI.set O.out CL.out k y) (by rw [List.length_set]; exact CL.out) m x)
    have R2 : Hid (Below B w ((wr.setCell ⟨g,k,none⟩ (.int .i64 y)).setCell ⟨g,m,none⟩ (.int .i64 x)).drew) := ((R.out.setCell (p := ⟨g,k,none⟩) hg _).setCell (p := ⟨g,m,none⟩) hg _).drew
    have c1 := OwnI.cell O.out CL.out hcx
    have c2 := OwnI.cell O.out CL.out hcy
    have f1 := OwnI.frz O.out CL.out k
    have f2 := OwnI.frz O.out CL.out m
    have hkm : k < m := by omega
    have hmL : m < L := by omega
    have hml : (m : Int) - 1 = (L : Int) - 1 - (k + 1 : Nat) := by omega
    have HML := Lib.hid hml
    rw [hmi]
    clear hx hy hcx hcy hm hmi hml T O
    go_wp2_with fail
    go_region
    go_wp2_with fail
    go_roundw
    case rel => exact ⟨k + 1,_,by go_num,by rw [HML.out],by omega,T2.out,O2.out,R2.out⟩
    case measure => simp [intOf]; omega
  · have hne : decide ((k : Int) < (L : Int) - 1 - k) = false := by simp; omega
    have E : Hid (cur = l.reverse) := T.out.fin (by rw [HL.out]; omega)
    go_wp2_with fail
    go_end0
    exact ⟨⟨_,rfl⟩,by rw [Hid,← E.out]; exact O.out,R.out⟩
theorem reverse_nil_c (w : World) : Calls Tryd.prog 67 #[.slice none 0 0] w (fun e w' => (∃ u,e = .returned u) ∧ Below w.heap.size w w') := by
 go_enter Tryd.func67,Tryd.ntmps67
 go_wp2_with fail
 go_loopw [2,3] (fun i j wr => i = .int .i64 0 ∧ j = .int .i64 (-1) ∧ wr = w) (fun _ _ _ => 0)
 case atStart => exact ⟨rfl,rfl,rfl⟩
 case round =>
  obtain ⟨rfl,rfl,rfl⟩ := hrel
  go_wp2_with fail
  go_end0
  exact ⟨⟨_,rfl⟩,Below.refl _ _⟩
end Go.Proofs.YtkifgffhoenaoaaDoor

