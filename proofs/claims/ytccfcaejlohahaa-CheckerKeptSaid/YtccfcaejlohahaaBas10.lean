/-
  (*synthesis.problem).supervisor: the automaton of what is reached within what is left (printed by gen_Vi.py).
-/
import Derived.Test.YtccfcaejlohahaaBas01
import Derived.Test.YtccfcaejlohahaaBas09
import Derived.Test.YtccfcaejlohahaaBas04
import Derived.Test.YtccfcaejlohahaaBas02
import Derived.BigQuiet
import Derived.Deep.CutBlock
import Derived.Deep.DeepCutAuto
set_option linter.unusedSimpArgs false
set_option linter.unusedVariables false
namespace Go.Proofs.Ytccfcaejlohahaa
open Go.RowKit
set_option maxRecDepth 100000
theorem wpList_insertJ {κ β : Type} [DecidableEq κ] {P : Program} {ops : Array Oper} {rest : List Oper} {o : Oper} {a : Act} {w : World} {n : Nat} {w0 : World} {es : List Ent} {Q : Exit → Act → World → Prop}
 (hg : o.guard = none) (m x v : Operand) (M T E : TypeId) (hop : o.op = Op.insert M m x v) {D : TypeDesc} {key : κ → Value} {ve : β → Value} {b : Nat} {f : κ → Option β} (S : Sep n w0 es w) (i : Nat) (hei : es[i]? = some (eMap key ve b f)) (K : KeyG P T D key) (hM : P.underlying M = some (.map T E))
 (y : κ) (z : β) (hm : a.eval m = .map (some b)) (hx : a.eval x = key y) (hv : a.eval v = ve z)
 (hK : ∀ w',Sep n w0 (es.set i (eMap key ve b (fun u => if u = y then some z else f u))) w' → wpList P ops Q rest (a.put o.dst undef) w') :
 wpList P ops Q (o :: rest) a w := by
 refine wpList_plain hg fun K' hK' => ?_
 obtain ⟨w',hrun,r1,r2⟩ := MapG.store K hM (S.get i hei) y z
 unfold Oper.wp
 simp [execOp,hop,hm,hx,hv,hrun,Result.andThen]
 exact hK' _ _ (hK w' (S.chg i hei _ (Off.grown r2) r1 (fun g hg => .inl hg)))
def GivesSv (a : Au) (left : Nat → Bool) (w : World) (e : Ending) (w' : World) : Prop := ∃ (s : Au) (p : AuP) (l : List Int) (AO : Option Addr) (cO : Nat),e = .returned (.tuple #[s.val p,.slice AO l.length cO]) ∧ Hid (SvOk a left s l) ∧ Hid (Sep w.heap.size w (eAu s p ++ [eInts l (.slice AO l.length cO)]) w')
set_option maxHeartbeats 8000000 in
theorem supervisor_c (a : Au) (p : AuP) (unc : List Int) (AU : Option Addr) (cU : Nat) (q : SyP) (left : Nat → Bool) (w : World) (hr : a.Right) (hS : SyAt w a p unc AU cU q left) (hel : a.n.toNat * a.ed.length ≤ 1000000) (hee : a.ed.length ≤ 1000000) :
 Calls Try.prog 55 #[.pointer (some ⟨q.pb,0,none⟩)] w (GivesSv a left w) := by
 have HS := Lib.hid hS
 have n0 := hr.n0
 have n1 := hr.n1
 have hal : a.al.length ≤ 32 := rises_len (n := 32) hr.al.incr fun x hx => hr.al.rgV hx
 have hml := hS.a.lmk
 have HER : Hid (∀ x,x ∈ a.ed → (0 ≤ x.src ∧ x.src < a.n) ∧ 0 ≤ x.dst ∧ x.dst < a.n) := fun x hx => by
  obtain ⟨k,hk,hkx⟩ := List.mem_iff_getElem.1 hx
  have := hr.ed k hk x (by rw [← hkx]; exact List.getElem?_eq_getElem hk)
  exact ⟨⟨this.1,this.2.1⟩,this.2.2.1,this.2.2.2.1⟩
 have HUP : Hid (∀ (p q : Nat) (x y : Ed),p < q → a.ed[p]? = some x → a.ed[q]? = some y → x.src = y.src → x.ev < y.ev) := fun i j x y hij hx hy he => by
  have := hr.rises i j x y hij hx hy
  unfold edLt at this
  omega
 obtain ⟨al,n,mr,ed⟩ := a
 obtain ⟨A1,c1,A2,c2,A3,c3⟩ := p
 obtain ⟨pb,mb,lb,vb⟩ := q
 dsimp only at n0 n1 hal hml HER HUP hel hee ⊢
 obtain ⟨N,rfl⟩ := Int.eq_ofNat_of_zero_le n0
 have HNN : Hid (((N : Nat) : Int).toNat = N) := Int.toNat_natCast N
 rw [Int.toNat_natCast] at hel
 clear hr hS n0
 have p0 := HS.out.b.cell 0
 have p1 := HS.out.b.cell 1
 have p6 := HS.out.b.cell 6
 simp only [sySt,List.getElem?_cons_succ,List.getElem?_cons_zero,HNN.out] at p0 p1 p6
 go_enter Try.func55,Try.ntmps55
 obtain ⟨rb,hrb⟩ : ∃ g,g = w.heap.size := ⟨_,rfl⟩
 go_upto_region 1 with fail
 rw [← hrb]
 refine wp_world (fun W => Sep w.heap.size w [eBlk rb 39 [.slice none 0 0,.int .i64 0,.slice none 0 0,.slice none 0 0]] W) ((Sep.here w).alloc' _ [_,_,_,_] rfl hrb) fun W S => ?_
 have S0 := Lib.hid S
 clear S hrb p0 p1 p6
 have HS1 := Lib.hid (HS.out.below S0.out.below)
 have p0 := HS1.out.b.cell 0
 simp only [sySt,List.getElem?_cons_succ,List.getElem?_cons_zero] at p0
 have CL := Lib.hid (cloneO_c A1 c1 al W HS1.out.a.al (by omega))
 go_wp2_with fail
 refine CL.out.mono ?_
 rintro e w1 ⟨v1,rfl,ho,hb⟩
 obtain ⟨AK,cK,rfl⟩ := Own.form ho.out
 have S1 := Lib.hid (S0.out.newI ho.out hb)
 clear CL ho hb S0 HS1 p0
 obtain ⟨nb,hnb⟩ : ∃ g,g = w1.heap.size := ⟨_,rfl⟩
 go_upto_region 2 with fail
 try rw [← hnb]
 refine wp_world (fun W => Sep w.heap.size w [eBlk nb 39 [.slice AK al.length cK,.int .i64 0,.slice none 0 0,.slice none 0 0],eInts al (.slice AK al.length cK),eBlk rb 39 [.slice none 0 0,.int .i64 0,.slice none 0 0,.slice none 0 0]] W) (S1.out.alloc' _ [_,_,_,_] rfl hnb) fun W2 S => ?_
 have S2 := Lib.hid S
 clear S S1 hnb
 have HS2 := Lib.hid (HS.out.below S2.out.below)
 have p1 := HS2.out.b.cell 1
 have p6 := HS2.out.b.cell 6
 simp only [sySt,List.getElem?_cons_succ,List.getElem?_cons_zero,HNN.out] at p1 p6
 have HEXIT : Hid (∀ (W9 : World),Sep w.heap.size w [eBlk nb 39 [.slice AK al.length cK,.int .i64 0,.slice none 0 0,.slice none 0 0],eInts al (.slice AK al.length cK),eBlk rb 39 [.slice none 0 0,.int .i64 0,.slice none 0 0,.slice none 0 0]] W9 → SvOk ⟨al,(N : Int),mr,ed⟩ left ⟨al,0,[],[]⟩ [] → GivesSv ⟨al,(N : Int),mr,ed⟩ left w (.returned (.tuple #[.agg #[.slice AK al.length cK,.int .i64 0,.slice none 0 0,.slice none 0 0],.slice none 0 0])) W9) := fun W9 S9 h => by
  exact ⟨⟨al,0,[],[]⟩,⟨AK,cK,none,0,none,0⟩,[],none,0,rfl,h,(((S9.nilOwn encI 1 3).nilOwn Ed.cells 3 68).nilOwn encI 1 3).pick [4,0,1,2] (by decide)⟩
 by_cases hgo : N = 0 ∨ left 0 = false
 · have HSV : Hid (SvOk ⟨al,(N : Int),mr,ed⟩ left ⟨al,0,[],[]⟩ []) := by
    refine ⟨rfl,rfl,rfl,fun _ => ⟨rfl,rfl⟩,fun h1 h2 => ?_⟩
    dsimp only at h1
    rcases hgo with g | g
    · exact absurd (by omega) h1
    · rw [h2] at g; cases g
   have o0 := BlkAt.cell (S2.out.get 0 rfl) 0; have o1 := BlkAt.cell (S2.out.get 0 rfl) 1; have o2 := BlkAt.cell (S2.out.get 0 rfl) 2; have o3 := BlkAt.cell (S2.out.get 0 rfl) 3; simp only [List.getElem?_cons_succ,List.getElem?_cons_zero] at o0 o1 o2 o3
   have f0 := BlkAt.free (S2.out.get 2 rfl) 0
   have f1 := BlkAt.free (S2.out.get 2 rfl) 1
   have f2 := BlkAt.free (S2.out.get 2 rfl) 2
   have f3 := BlkAt.free (S2.out.get 2 rfl) 3
   have r0 := BlkAt.cell (S2.out.get 2 rfl) 0; have r1 := BlkAt.cell (S2.out.get 2 rfl) 1; have r2 := BlkAt.cell (S2.out.get 2 rfl) 2; have r3 := BlkAt.cell (S2.out.get 2 rfl) 3; simp only [List.getElem?_cons_succ,List.getElem?_cons_zero] at r0 r1 r2 r3
   have S4 : Hid (Sep w.heap.size w [eBlk nb 39 [.slice AK al.length cK,.int .i64 0,.slice none 0 0,.slice none 0 0],eInts al (.slice AK al.length cK),eBlk rb 39 [.slice AK al.length cK,.int .i64 0,.slice none 0 0,.slice none 0 0]] ((((W2.setCell ⟨rb,0,none⟩ (.slice AK al.length cK)).setCell ⟨rb,1,none⟩ (.int .i64 0)).setCell ⟨rb,2,none⟩ (.slice none 0 0)).setCell ⟨rb,3,none⟩ (.slice none 0 0))) := (((S2.out.set 2 rfl 0 _).set 2 rfl 1 _).set 2 rfl 2 _).set 2 rfl 3 _
   have q0 := BlkAt.cell (S4.out.get 2 rfl) 0; have q1 := BlkAt.cell (S4.out.get 2 rfl) 1; have q2 := BlkAt.cell (S4.out.get 2 rfl) 2; have q3 := BlkAt.cell (S4.out.get 2 rfl) 3; simp only [List.getElem?_cons_succ,List.getElem?_cons_zero] at q0 q1 q2 q3
   have HG : Hid (GivesSv ⟨al,(N : Int),mr,ed⟩ left w (.returned (.tuple #[.agg #[.slice AK al.length cK,.int .i64 0,.slice none 0 0,.slice none 0 0],.slice none 0 0])) ((((W2.setCell ⟨rb,0,none⟩ (.slice AK al.length cK)).setCell ⟨rb,1,none⟩ (.int .i64 0)).setCell ⟨rb,2,none⟩ (.slice none 0 0)).setCell ⟨rb,3,none⟩ (.slice none 0 0))) := ⟨⟨al,0,[],[]⟩,⟨AK,cK,none,0,none,0⟩,[],none,0,rfl,HSV.out,((((S4.out).nilOwn encI 1 3).nilOwn Ed.cells 3 68).nilOwn encI 1 3).pick [4,0,1,2] (by decide)⟩
   by_cases hN : N = 0
   · subst hN
     clear hgo S2 S4
     go_wp2_with fail
     refine bodyPost_ret (v := .tuple #[.agg #[.slice AK al.length cK,.int .i64 0,.slice none 0 0,.slice none 0 0],.slice none 0 0]) (by simp [results,Try.results55,go_sem, *]) rfl ?_
     exact HG.out
   · have hl0 : left 0 = false := by
      rcases hgo with g | g
      · exact absurd g hN
      · exact g
     have hNp : 0 < N := by omega
     have hNe : ((N : Int) == 0) = false := beq_eq_false_iff_ne.2 (by omega)
     have gc := (HS2.out.l.cell 0).trans (mkB_get (by simpa using hNp))
     dsimp only at gc
     rw [hl0] at gc
     clear hgo S2 S4 hN
     go_wp2_with fail
     refine bodyPost_ret (v := .tuple #[.agg #[.slice AK al.length cK,.int .i64 0,.slice none 0 0,.slice none 0 0],.slice none 0 0]) (by simp [results,Try.results55,go_sem, *]) rfl ?_
     exact HG.out
 · have hN : 0 < N := by
    rcases Nat.eq_zero_or_pos N with g | g
    · exact absurd (.inl g) hgo
    · exact g
   have hl0 : left 0 = true := by
    cases g : left 0 with
    | true => rfl
    | false => exact absurd (.inr g) hgo
   have hNe : ((N : Int) == 0) = false := beq_eq_false_iff_ne.2 (by omega)
   have gc := (HS2.out.l.cell 0).trans (mkB_get (by simpa using hN))
   dsimp only at gc
   rw [hl0] at gc
   have HL0 := Lib.hid hl0
   have hmk := make_run (P := Try.prog) 91 37 (.slice none 0 0) 24 Try.underlying91 rowInfo rfl N (by omega) (by omega)
   have hmm0 := @run_makeMap Try.prog
   clear hgo HEXIT hl0
   go_upto_region 4 with fail
   clear gc p6 HS2
   obtain ⟨eb,heb⟩ : ∃ g,g = W2.heap.size := ⟨_,rfl⟩
   go_upto_region 5 with fail
   try rw [← heb]
   refine wp_world (fun W => Sep w.heap.size w [eBlk eb 37 (List.replicate N (.slice none 0 0)),eRwsG Ed.cells 3 68 (inL left (ed.take 0)) (List.replicate N (.slice none 0 0)),eBlk nb 39 [.slice AK al.length cK,.int .i64 0,.slice none 0 0,.slice none 0 0],eInts al (.slice AK al.length cK),eBlk rb 39 [.slice none 0 0,.int .i64 0,.slice none 0 0,.slice none 0 0]] W) (((S2.out.alloc' 37 (List.replicate N (.slice none 0 0)) (by simp) heb).rwsNil N (inL left (ed.take 0)) (fun i => rfl)).pick [1,0,2,3,4] (by decide)) fun W3 S => ?_
   have S3 := Lib.hid S
   clear S S2 heb hmk p1
   have p3 := (HS.out.below S3.out.below).b.cell 3
   simp only [sySt,List.getElem?_cons_succ,List.getElem?_cons_zero] at p3
   go_wp2_with fail
   clear p3
   go_loopw [50] (fun i wr => ∃ (k : Nat) (vs : List Value),k ≤ ed.length ∧ i = .int .i64 (k : Int) ∧ Hid (vs.length = N) ∧ Hid (Sep w.heap.size w [eBlk eb 37 vs,eRwsG Ed.cells 3 68 (inL left (ed.take k)) vs,eBlk nb 39 [.slice AK al.length cK,.int .i64 0,.slice none 0 0,.slice none 0 0],eInts al (.slice AK al.length cK),eBlk rb 39 [.slice none 0 0,.int .i64 0,.slice none 0 0,.slice none 0 0]] wr)) (fun i _ => ed.length - (intOf i).toNat)
   case atStart => exact ⟨0,_,by omega,rfl,by simp [Hid],S3.out⟩
   case round =>
    clear S3
    obtain ⟨k,vs,hk,rfl,HVL,S⟩ := hrel
    by_cases hlt : k < ed.length
    · obtain ⟨b,off,x,hA3,hb,hx,e0,e1,e2⟩ := EdsAt.at (HS.out.below S.out.below).a.ed hlt
      have hxr := HER.out x (List.mem_of_getElem? hx)
      obtain ⟨src,ev,dst⟩ := x
      dsimp only at hxr hA3 e0 e1 e2
      obtain ⟨s,rfl⟩ := Int.eq_ofNat_of_zero_le hxr.1.1
      obtain ⟨d,rfl⟩ := Int.eq_ofNat_of_zero_le hxr.2.1
      have hsN : s < N := by omega
      have hdN : d < N := by omega
      have HX := Lib.hid hx
      subst hA3
      obtain ⟨xb,hxb⟩ : ∃ g,g = wr.heap.size := ⟨_,rfl⟩
      go_upto_region 8 with fail
      rw [← hxb]
      refine wp_world (fun V => Sep w.heap.size w [eBlk xb 68 [.int .i64 (s : Int),.int .i64 ev,.int .i64 (d : Int)],eBlk eb 37 vs,eRwsG Ed.cells 3 68 (inL left (ed.take k)) vs,eBlk nb 39 [.slice AK al.length cK,.int .i64 0,.slice none 0 0,.slice none 0 0],eInts al (.slice AK al.length cK),eBlk rb 39 [.slice none 0 0,.int .i64 0,.slice none 0 0,.slice none 0 0]] V) (S.out.alloc' _ [_,_,_] rfl hxb) fun V S' => ?_
      have S2 := Lib.hid S'
      clear S S' hxb e0 e1 e2 hx hb hxr
      have x2 := BlkAt.cell (S2.out.get 0 rfl) 2; simp only [List.getElem?_cons_succ,List.getElem?_cons_zero] at x2
      have HS2 := Lib.hid (HS.out.below S2.out.below)
      have p6 := HS2.out.b.cell 6
      simp only [sySt,List.getElem?_cons_succ,List.getElem?_cons_zero,HNN.out] at p6
      have gd := (HS2.out.l.cell d).trans (mkB_get (by simpa using hdN))
      dsimp only at gd
      obtain ⟨u,hu⟩ : ∃ u,u = left d := ⟨_,rfl⟩
      rw [← hu] at gd
      have HL : Hid (left d = u) := hu.symm
      clear hu
      have HT : Hid (ed.take (k + 1) = ed.take k ++ [⟨(s : Int),ev,(d : Int)⟩]) := by rw [Hid,List.take_add_one,HX.out]; rfl
      cases u
      · have HSM : Hid (Sep w.heap.size w [eBlk eb 37 vs,eRwsG Ed.cells 3 68 (inL left (ed.take (k + 1))) vs,eBlk nb 39 [.slice AK al.length cK,.int .i64 0,.slice none 0 0,.slice none 0 0],eInts al (.slice AK al.length cK),eBlk rb 39 [.slice none 0 0,.int .i64 0,.slice none 0 0,.slice none 0 0]] V) := by
         have h := S2.out.drop1
         rw [show inL left (ed.take k) = inL left (ed.take (k + 1)) from by
          funext t
          rw [HT.out]
          exact (inL_ne fun g => by have g := g.2; dsimp only at g; rw [Int.toNat_natCast,HL.out] at g; cases g).symm] at h
         exact h
        clear S2
        go_quiet (fail)
        go_wp2_with fail
        go_roundw
        case rel => exact ⟨k + 1,vs,by omega,by go_num,HVL.out,HSM.out.draws _⟩
        case measure => simp [intOf]; omega
      · have hsl : s < vs.length := by rw [HVL.out]; exact hsN
        obtain ⟨v,hv⟩ : ∃ v,v = vs[s] := ⟨_,rfl⟩
        have HVS : Hid (vs[s]? = some v) := by rw [Hid,hv]; exact List.getElem?_eq_getElem hsl
        have hlen : (inL left (ed.take k) s).length ≤ k := Nat.le_trans (inL_len _ _ _) (List.length_take_le _ _)
        clear hv
        go_quiet (fail)
        go_upto_region 9 with fail
        refine wp_world (fun V3 => Hid (Sep w.heap.size w [eBlk xb 68 [.int .i64 (s : Int),.int .i64 ev,.int .i64 (d : Int)],eBlk eb 37 vs,eRwsG Ed.cells 3 68 (inL left (ed.take k)) vs,eBlk nb 39 [.slice AK al.length cK,.int .i64 0,.slice none 0 0,.slice none 0 0],eInts al (.slice AK al.length cK),eBlk rb 39 [.slice none 0 0,.int .i64 0,.slice none 0 0,.slice none 0 0]] V3)) (S2.out.draws _) fun V3 S3 => ?_
        clear S2 x2 p6 gd HS2
        have S1 := Lib.hid S3.out.drew
        refine wp_region_held_drew (S := (fun V => Sep w.heap.size w [eBlk xb 68 [.int .i64 (s : Int),.int .i64 ev,.int .i64 (d : Int)]] V)) (by kernel_rfl) ?_ (fun hHeld => ?_)
        · exact S1.out.pick [0] (by decide)
        generalize hwz : V3.drew = w1 at *
        clear hwz
        refine tkP 0 rfl hHeld ?_
        try simp only [sx]
        refine tkP 1 rfl hHeld ?_
        try simp only [sx]
        refine tkH 2 rfl (v := ?_) (by kernel_rfl) ?_ hHeld ?_
        rotate_left
        · intro V hSw
          have x0 := qkC hSw 0 rfl 0 rfl
          clear hSw
          first | (go_simp; done) | (go_simp; with_reducible rfl)
        try simp only [sx]
        refine tkP 3 rfl hHeld ?_
        try simp only [sx]
        refine tkP 4 rfl hHeld ?_
        try simp only [sx]
        refine tkH 5 rfl (v := ?_) (by kernel_rfl) ?_ hHeld ?_
        rotate_left
        · intro V hSw
          have x0 := qkC hSw 0 rfl 0 rfl
          clear hSw
          first | (go_simp; done) | (go_simp; with_reducible rfl)
        try simp only [sx]
        refine tkP 6 rfl hHeld ?_
        try simp only [sx]
        refine tkH 8 rfl (v := ?_) (by kernel_rfl) ?_ hHeld ?_
        rotate_left
        · intro V hSw
          have x0 := qkC hSw 0 rfl 0 rfl
          have x1 := qkC hSw 0 rfl 1 rfl
          have x2 := qkC hSw 0 rfl 2 rfl
          clear hSw
          first | (go_simp; done) | (go_simp; with_reducible rfl)
        try simp only [sx]
        refine wpAnyH_ready (rs := [7,9]) (by kernel_rfl) (by simp) ?_
        refine AllReadyH.cons rfl (fun K hK => ?_) (AllReadyH.cons rfl (fun K hK => ?_) AllReadyH.nil)
        · skip
          have sl := (BlkAt.cell (S1.out.get 1 rfl) s).trans HVS.out
          go_simp
          refine hK.out _ _ ?_ (fun hHeld => ?_)
          · exact S1.out.pick [0] (by decide)
          clear hK K
          try simp only [sx]
          refine rdH 9 rfl fun K hK => ?_
          go_simp
          obtain ⟨nnw,hnnw⟩ : ∃ n,n = w1.heap.size := ⟨_,rfl⟩
          obtain ⟨w2,hw2⟩ : ∃ v,v = w1.alloc (.cells #[.int .i64 (s : Int),.int .i64 ev,.int .i64 (d : Int)] 68) := ⟨_,rfl⟩
          rw [← hw2,← hnnw]
          have S2 := qkA S1.out hw2 hnnw
          skip
          clear hw2 hnnw
          refine hK.out _ _ ?_ (fun hHeld => ?_)
          · exact S2.out.pick [1] (by decide)
          clear hK K
          try simp only [sx]
          refine rdH 10 rfl fun K hK => ?_
          refine step_append_at rfl (.tmp 69) (.tmp 71) 37 rfl 0 68 _ 3 24 Try.underlying37 edInfo rfl (by decide) v _ _ rfl ((S2.out.get 3 rfl).1 s v HVS.out) ⟨nnw,0,none⟩ 1 1 (Ed.cells ⟨(s : Int),ev,(d : Int)⟩) rfl rfl (fun j u hj => (cell_add (S2.out.get 0 rfl) j).trans hj) (edOne _) (by simp only [maxLen]; omega) (by omega) (Nat.zero_le _) ?_
          intro A1' c1' w3 ho hg hb'
          have S3' := S2.out.rwsPush 3 rfl HVS.out (f' := inL left (ed.take k ++ [⟨(s : Int),ev,(d : Int)⟩])) (y := ⟨(s : Int),ev,(d : Int)⟩) (inL_push rfl (by simpa using HL.out)) (fun j hj => inL_ne fun e => hj (by have e := e.1; dsimp only at e; omega)) ho hg hb'
          clear ho hg hb'
          have S3 : Hid (Sep w.heap.size w [eBlk nnw 68 [.int .i64 (s : Int),.int .i64 ev,.int .i64 (d : Int)],eBlk xb 68 [.int .i64 (s : Int),.int .i64 ev,.int .i64 (d : Int)],eBlk eb 37 vs,eRwsG Ed.cells 3 68 (inL left (ed.take k ++ [⟨(s : Int),ev,(d : Int)⟩])) (vs.set s (.slice A1' ((inL left (ed.take k) s).length + 1) c1')),eBlk nb 39 [.slice AK al.length cK,.int .i64 0,.slice none 0 0,.slice none 0 0],eInts al (.slice AK al.length cK),eBlk rb 39 [.slice none 0 0,.int .i64 0,.slice none 0 0,.slice none 0 0]] w3) := S3'
          clear S3'
          refine hK.out _ _ ?_ (fun hHeld => ?_)
          · exact S3.out.pick [1] (by decide)
          clear hK K
          try simp only [sx]
          refine tkP 11 rfl hHeld ?_
          try simp only [sx]
          refine rdH 12 rfl fun K hK => ?_
          have sc := (BlkAt.cell (S3.out.get 2 rfl) s).trans HVS.out
          have sf := BlkAt.free (S3.out.get 2 rfl) s
          go_simp
          obtain ⟨w4,hw4⟩ : ∃ v,v = w3.setCell ⟨eb,s,none⟩ (.slice A1' ((inL left (ed.take k) s).length + 1) c1') := ⟨_,rfl⟩
          rw [← hw4]
          have S4 : Hid (Sep w.heap.size w [eBlk nnw 68 [.int .i64 (s : Int),.int .i64 ev,.int .i64 (d : Int)],eBlk xb 68 [.int .i64 (s : Int),.int .i64 ev,.int .i64 (d : Int)],eBlk eb 37 (vs.set s (.slice A1' ((inL left (ed.take k) s).length + 1) c1')),eRwsG Ed.cells 3 68 (inL left (ed.take k ++ [⟨(s : Int),ev,(d : Int)⟩])) (vs.set s (.slice A1' ((inL left (ed.take k) s).length + 1) c1')),eBlk nb 39 [.slice AK al.length cK,.int .i64 0,.slice none 0 0,.slice none 0 0],eInts al (.slice AK al.length cK),eBlk rb 39 [.slice none 0 0,.int .i64 0,.slice none 0 0,.slice none 0 0]] w4) := by rw [hw4]; exact S3.out.set 2 rfl s (.slice A1' ((inL left (ed.take k) s).length + 1) c1')
          clear hw4 sc sf
          refine hK.out _ _ ?_ (fun hHeld => ?_)
          · exact S4.out.pick [1] (by decide)
          clear hK K
          try simp only [sx]
          refine wpAnyH_done (by kernel_rfl) ?_ _
          have HT : Hid (ed.take (k + 1) = ed.take k ++ [⟨(s : Int),ev,(d : Int)⟩]) := by rw [Hid,List.take_add_one,HX.out]; rfl
          have S9 := Lib.hid (S4.out.pick [2,3,4,5,6] (by decide))
          clear S4
          go_wp2_with fail
          go_roundw
          case rel => exact ⟨k + 1,vs.set s (.slice A1' ((inL left (ed.take k) s).length + 1) c1'),by omega,by go_num,by rw [Hid,List.length_set]; exact HVL.out,by rw [HT.out]; exact S9.out⟩
          case measure => simp [intOf]; omega
        · skip
          go_simp
          obtain ⟨nnw,hnnw⟩ : ∃ n,n = w1.heap.size := ⟨_,rfl⟩
          obtain ⟨w5,hw5⟩ : ∃ v,v = w1.alloc (.cells #[.int .i64 (s : Int),.int .i64 ev,.int .i64 (d : Int)] 68) := ⟨_,rfl⟩
          rw [← hw5,← hnnw]
          have S5 := qkA S1.out hw5 hnnw
          skip
          clear hw5 hnnw
          refine hK.out _ _ ?_ (fun hHeld => ?_)
          · exact S5.out.pick [1] (by decide)
          clear hK K
          try simp only [sx]
          refine rdH 7 rfl fun K hK => ?_
          have sl := (BlkAt.cell (S5.out.get 2 rfl) s).trans HVS.out
          go_simp
          refine hK.out _ _ ?_ (fun hHeld => ?_)
          · exact S5.out.pick [1] (by decide)
          clear hK K
          try simp only [sx]
          refine rdH 10 rfl fun K hK => ?_
          refine step_append_at rfl (.tmp 69) (.tmp 71) 37 rfl 0 68 _ 3 24 Try.underlying37 edInfo rfl (by decide) v _ _ rfl ((S5.out.get 3 rfl).1 s v HVS.out) ⟨nnw,0,none⟩ 1 1 (Ed.cells ⟨(s : Int),ev,(d : Int)⟩) rfl rfl (fun j u hj => (cell_add (S5.out.get 0 rfl) j).trans hj) (edOne _) (by simp only [maxLen]; omega) (by omega) (Nat.zero_le _) ?_
          intro A1' c1' w6 ho hg hb'
          have S6' := S5.out.rwsPush 3 rfl HVS.out (f' := inL left (ed.take k ++ [⟨(s : Int),ev,(d : Int)⟩])) (y := ⟨(s : Int),ev,(d : Int)⟩) (inL_push rfl (by simpa using HL.out)) (fun j hj => inL_ne fun e => hj (by have e := e.1; dsimp only at e; omega)) ho hg hb'
          clear ho hg hb'
          have S6 : Hid (Sep w.heap.size w [eBlk nnw 68 [.int .i64 (s : Int),.int .i64 ev,.int .i64 (d : Int)],eBlk xb 68 [.int .i64 (s : Int),.int .i64 ev,.int .i64 (d : Int)],eBlk eb 37 vs,eRwsG Ed.cells 3 68 (inL left (ed.take k ++ [⟨(s : Int),ev,(d : Int)⟩])) (vs.set s (.slice A1' ((inL left (ed.take k) s).length + 1) c1')),eBlk nb 39 [.slice AK al.length cK,.int .i64 0,.slice none 0 0,.slice none 0 0],eInts al (.slice AK al.length cK),eBlk rb 39 [.slice none 0 0,.int .i64 0,.slice none 0 0,.slice none 0 0]] w6) := S6'
          clear S6'
          refine hK.out _ _ ?_ (fun hHeld => ?_)
          · exact S6.out.pick [1] (by decide)
          clear hK K
          try simp only [sx]
          refine tkP 11 rfl hHeld ?_
          try simp only [sx]
          refine rdH 12 rfl fun K hK => ?_
          have sc := (BlkAt.cell (S6.out.get 2 rfl) s).trans HVS.out
          have sf := BlkAt.free (S6.out.get 2 rfl) s
          go_simp
          obtain ⟨w7,hw7⟩ : ∃ v,v = w6.setCell ⟨eb,s,none⟩ (.slice A1' ((inL left (ed.take k) s).length + 1) c1') := ⟨_,rfl⟩
          rw [← hw7]
          have S7 : Hid (Sep w.heap.size w [eBlk nnw 68 [.int .i64 (s : Int),.int .i64 ev,.int .i64 (d : Int)],eBlk xb 68 [.int .i64 (s : Int),.int .i64 ev,.int .i64 (d : Int)],eBlk eb 37 (vs.set s (.slice A1' ((inL left (ed.take k) s).length + 1) c1')),eRwsG Ed.cells 3 68 (inL left (ed.take k ++ [⟨(s : Int),ev,(d : Int)⟩])) (vs.set s (.slice A1' ((inL left (ed.take k) s).length + 1) c1')),eBlk nb 39 [.slice AK al.length cK,.int .i64 0,.slice none 0 0,.slice none 0 0],eInts al (.slice AK al.length cK),eBlk rb 39 [.slice none 0 0,.int .i64 0,.slice none 0 0,.slice none 0 0]] w7) := by rw [hw7]; exact S6.out.set 2 rfl s (.slice A1' ((inL left (ed.take k) s).length + 1) c1')
          clear hw7 sc sf
          refine hK.out _ _ ?_ (fun hHeld => ?_)
          · exact S7.out.pick [1] (by decide)
          clear hK K
          try simp only [sx]
          refine wpAnyH_done (by kernel_rfl) ?_ _
          have HT : Hid (ed.take (k + 1) = ed.take k ++ [⟨(s : Int),ev,(d : Int)⟩]) := by rw [Hid,List.take_add_one,HX.out]; rfl
          have S9 := Lib.hid (S7.out.pick [2,3,4,5,6] (by decide))
          clear S7
          go_wp2_with fail
          go_roundw
          case rel => exact ⟨k + 1,vs.set s (.slice A1' ((inL left (ed.take k) s).length + 1) c1'),by omega,by go_num,by rw [Hid,List.length_set]; exact HVL.out,by rw [HT.out]; exact S9.out⟩
          case measure => simp [intOf]; omega
    · obtain rfl : k = ed.length := by omega
      have HF : Hid (SvI N ed left 0 0 [0] []) := SvI.start hN HL0.out
      obtain ⟨mp,hmp⟩ : ∃ g,g = wr.heap.size := ⟨_,rfl⟩
      go_upto_region 11 with fail
      go_upto_region 12 with (rw [← hmp]; refine wpList_insertJ rfl _ _ _ 151 3 3 rfl (S.out.allocMap keyI veI hmp) 0 rfl okI Try.underlying151 (0 : Int) (0 : Int) rfl rfl rfl ?_)
      intro w7 S7'
      have S7 : Hid (Sep w.heap.size w [eMap keyI veI mp (fun u => if u = 0 then some 0 else none),eBlk eb 37 vs,eRwsG Ed.cells 3 68 (inL left ed) vs,eBlk nb 39 [.slice AK al.length cK,.int .i64 0,.slice none 0 0,.slice none 0 0],eInts al (.slice AK al.length cK),eBlk rb 39 [.slice none 0 0,.int .i64 0,.slice none 0 0,.slice none 0 0]] w7) := by
       rw [← hmp] at S7'
       exact S7'
      clear S7' S
      go_upto_region 12 with fail
      try rw [← hmp]
      clear hmp
      obtain ⟨ob,hob⟩ : ∃ g,g = w7.heap.size := ⟨_,rfl⟩
      go_upto_region 13 with fail
      try rw [← hob]
      refine wp_world (fun V => Hid (Sep w.heap.size w [eBlk nb 39 [.slice AK al.length cK,.int .i64 0,.slice none 0 0,.slice none 0 0],eMap keyI veI mp (fun u : Int => if u = 0 then some 0 else none),eInts [(0 : Int)] (.slice (some ⟨ob,0,none⟩) 1 1),eInts [] (.slice none 0 0),eEds [] (.slice none 0 0),eBlk eb 37 vs,eRwsG Ed.cells 3 68 (inL left ed) vs,eInts al (.slice AK al.length cK),eBlk rb 39 [.slice none 0 0,.int .i64 0,.slice none 0 0,.slice none 0 0]] V)) (by
       have h := (S7.out.alloc' 3 [.int .i64 0] rfl hob).own 0 rfl encI 1 [(0 : Int)] rfl (fun _ => rfl) (by simp [maxLen])
       exact ((h.nilOwn Ed.cells 3 68).nilOwn encI 1 3).pick [6,3,2,0,1,4,5,7,8] (by decide)) fun V S8 => ?_
      clear S7 hob
      go_wp2_with fail
      go_loopw [10,9] (fun vi vl wr => ∃ (i : Nat) (l : List Int) (f : Int → Option Int) (ms : List Int) (es : List Ed) (AO : Option Addr) (cO : Nat) (AM : Option Addr) (cM : Nat) (AE : Option Addr) (cE : Nat),vi = .int .i64 (i : Int) ∧ vl = .slice AO l.length cO ∧ Hid (SvI N ed left i 0 l es) ∧ Hid (NumF l f) ∧ Hid (ms = mkV (mG mr l) i) ∧ Hid (Sep w.heap.size w [eBlk nb 39 [.slice AK al.length cK,.int .i64 0,.slice AM ms.length cM,.slice AE es.length cE],eMap keyI veI mp f,eInts l (.slice AO l.length cO),eInts ms (.slice AM ms.length cM),eEds es (.slice AE es.length cE),eBlk eb 37 vs,eRwsG Ed.cells 3 68 (inL left ed) vs,eInts al (.slice AK al.length cK),eBlk rb 39 [.slice none 0 0,.int .i64 0,.slice none 0 0,.slice none 0 0]] wr)) (fun vi _ _ => N - (intOf vi).toNat)
      case atStart => exact ⟨0,[0],_,[],[],some ⟨ob,0,none⟩,1,none,0,none,0,rfl,rfl,HF.out,NumF.one,rfl,S8.out⟩
      case round =>
       clear S8 HF hlt hk
       obtain ⟨i,l,f,ms,es,AO,cO,AM,cM,AE,cE,rfl,rfl,UI,NF,HM,S⟩ := hrel
       have hlN : l.length ≤ N := nodup_len N l UI.out.nd fun x hx => (UI.out.b x hx).1
       by_cases hlt : i < l.length
       · obtain ⟨bo,oo,s0,rfl,hb,hs,cs⟩ := IntsAt.at (S.out.ints 2 rfl) hlt
         have hsr := UI.out.b s0 (List.mem_of_getElem? hs)
         obtain ⟨s,rfl⟩ := Int.eq_ofNat_of_zero_le hsr.1.1
         have hsN : s < N := by omega
         have HSI := Lib.hid hs
         have hsl : s < vs.length := by rw [HVL.out]; exact hsN
         obtain ⟨v,hv⟩ : ∃ v,v = vs[s] := ⟨_,rfl⟩
         have HVS : Hid (vs[s]? = some v) := by rw [Hid,hv]; exact List.getElem?_eq_getElem hsl
         obtain ⟨AV,cV,rfl⟩ := Own.form ((S.out.get 6 rfl).1 s v HVS.out)
         have cv := (BlkAt.cell (S.out.get 5 rfl) s).trans HVS.out
         have hrl := inL_len left ed s
         have hmsl : ms.length ≤ 4096 := by rw [HM.out]; have := mkV_len (mG mr l) i; omega
         clear hv hb hs hsr
         go_wp2_with fail
         clear cs cv
         go_loopw [92,9] (fun vj vl wr => ∃ (j : Nat) (l : List Int) (f : Int → Option Int) (es : List Ed) (AO : Option Addr) (cO : Nat) (AE : Option Addr) (cE : Nat),vj = .int .i64 (j : Int) ∧ vl = .slice AO l.length cO ∧ j ≤ (inL left ed s).length ∧ Hid (l[i]? = some (s : Int)) ∧ Hid (SvI N ed left i j l es) ∧ Hid (NumF l f) ∧ Hid (ms = mkV (mG mr l) i) ∧ Hid (Sep w.heap.size w [eBlk nb 39 [.slice AK al.length cK,.int .i64 0,.slice AM ms.length cM,.slice AE es.length cE],eMap keyI veI mp f,eInts l (.slice AO l.length cO),eInts ms (.slice AM ms.length cM),eEds es (.slice AE es.length cE),eBlk eb 37 vs,eRwsG Ed.cells 3 68 (inL left ed) vs,eInts al (.slice AK al.length cK),eBlk rb 39 [.slice none 0 0,.int .i64 0,.slice none 0 0,.slice none 0 0]] wr)) (fun vj _ _ => (inL left ed s).length - (intOf vj).toNat)
         case atStart => exact ⟨0,l,f,es,_,cO,AE,cE,rfl,rfl,Nat.zero_le _,HSI.out,UI.out,NF.out,HM.out,S.out⟩
         case round =>
          clear S UI NF HM HSI hlt hlN
          obtain ⟨j,l,f,es,AO,cO,AE,cE,rfl,rfl,hj,HSI,UI,NF,HM,S⟩ := hrel
          have hlN : l.length ≤ N := nodup_len N l UI.out.nd fun x hx => (UI.out.b x hx).1
          have hil := (List.getElem?_eq_some_iff.1 HSI.out).1
          have hesl : es.length ≤ 1000000 := by
           have h1 := UI.out.ln
           have h2 := Nat.mul_le_mul_right ed.length (show i + 1 ≤ N by omega)
           rw [Nat.add_mul,Nat.one_mul] at h2
           omega
          obtain ⟨bo,oo,s1,rfl,hb,hs,cs⟩ := IntsAt.at (S.out.ints 2 rfl) hil
          rw [HSI.out] at hs; cases hs
          by_cases hlj : j < (inL left ed s).length
          · obtain ⟨b,off,x,rfl,hb2,hx,e0,e1,e2⟩ := EdsAt.at (Own.reads (enc := Ed.cells) (k := 3) (fun _ => rfl) ((S.out.get 6 rfl).1 s _ HVS.out)) hlj
            have hxm := mem_inL.1 (List.mem_of_getElem? hx)
            have hxr := HER.out x hxm.1
            obtain ⟨xs,xev,xd⟩ := x
            dsimp only at hxr hxm e0 e1 e2
            obtain ⟨d,rfl⟩ := Int.eq_ofNat_of_zero_le hxr.2.1
            have hdN : d < N := by omega
            have HX := Lib.hid hx
            have HD : Hid ((d : Int) ∈ l ∨ ¬ (d : Int) ∈ l) := Classical.em _
            obtain ⟨xb,hxb⟩ : ∃ g,g = wr.heap.size := ⟨_,rfl⟩
            clear hb hb2 hx hxm hxr cs
            go_upto_region 19 with fail
            rw [← hxb]
            refine wp_world (fun V => Hid (Sep w.heap.size w [eBlk xb 68 [.int .i64 xs,.int .i64 xev,.int .i64 (d : Int)],eBlk nb 39 [.slice AK al.length cK,.int .i64 0,.slice AM ms.length cM,.slice AE es.length cE],eMap keyI veI mp f,eInts l (.slice (some ⟨bo,oo,none⟩) l.length cO),eInts ms (.slice AM ms.length cM),eEds es (.slice AE es.length cE),eBlk eb 37 vs,eRwsG Ed.cells 3 68 (inL left ed) vs,eInts al (.slice AK al.length cK),eBlk rb 39 [.slice none 0 0,.int .i64 0,.slice none 0 0,.slice none 0 0]] V)) (S.out.alloc' _ [_,_,_] rfl hxb) fun V S2 => ?_
            clear S hxb e0 e1 e2
            have x2 := BlkAt.cell (S2.out.get 0 rfl) 2; simp only [List.getElem?_cons_succ,List.getElem?_cons_zero] at x2
            have hlk := (MapG.look okI Try.underlying151 zeroI (S2.out.get 2 rfl) (d : Int)).1
            cases hfd : f (d : Int) with
            | some t0 =>
              have hft := NF.out.a _ _ hfd
              obtain ⟨t,rfl⟩ := Int.eq_ofNat_of_zero_le hft.1
              rw [Int.toNat_natCast] at hft
              rw [hfd] at hlk
              simp only [Option.getD_some,Option.isSome_some,veI,keyI] at hlk
              have UIN : Hid (SvI N ed left i (j + 1) l (es ++ [⟨(i : Int),xev,(t : Int)⟩])) := by
               have h := UI.out.edge (m := []) HSI.out HX.out HUP.out (t := t) (by rw [List.append_nil]; exact hft.2) (.inl rfl)
               rw [List.append_nil] at h
               exact h
              have NFN := NF
              have HMN := HM
              clear hfd hft NF HM UI
              go_upto_region 24 with fail
              refine wp_world (fun V => Hid (Sep w.heap.size w [eBlk xb 68 [.int .i64 xs,.int .i64 xev,.int .i64 (d : Int)],eBlk nb 39 [.slice AK al.length cK,.int .i64 0,.slice AM ms.length cM,.slice AE es.length cE],eMap keyI veI mp f,eInts l (.slice (some ⟨bo,oo,none⟩) l.length cO),eInts ms (.slice AM ms.length cM),eEds es (.slice AE es.length cE),eBlk eb 37 vs,eRwsG Ed.cells 3 68 (inL left ed) vs,eInts al (.slice AK al.length cK),eBlk rb 39 [.slice none 0 0,.int .i64 0,.slice none 0 0,.slice none 0 0]] V)) S2 fun V S2 => ?_
              clear x2 hlk
              have o3 := BlkAt.cell (S2.out.get 1 rfl) 3; simp only [List.getElem?_cons_succ,List.getElem?_cons_zero] at o3
              have y1 := BlkAt.cell (S2.out.get 0 rfl) 1; simp only [List.getElem?_cons_succ,List.getElem?_cons_zero] at y1
              go_wp2_with (at_builtin; refine wpList_pushS rfl _ _ 37 rfl (S2.out.alloc 68 [.int .i64 (i : Int),.int .i64 xev,.int .i64 (t : Int)]) 6 rfl Try.underlying37 _ 24 edInfo rfl (by decide) rfl (⟨(i : Int),xev,(t : Int)⟩ : Ed) _ rfl rfl (fun k u hk => (BlkAt.cell (BlkAt.new _ _ _) k).trans hk) (edOne _) (by omega) (by decide) ?_)
              intro A3' c3' w13 S11 _
              have S12 : Hid (Sep w.heap.size w [eBlk xb 68 [.int .i64 xs,.int .i64 xev,.int .i64 (d : Int)],eBlk nb 39 [.slice AK al.length cK,.int .i64 0,.slice AM ms.length cM,.slice AE es.length cE],eMap keyI veI mp f,eInts l (.slice (some ⟨bo,oo,none⟩) l.length cO),eInts ms (.slice AM ms.length cM),eEds (es ++ [(⟨(i : Int),xev,(t : Int)⟩ : Ed)]) (.slice A3' (es.length + 1) c3'),eBlk eb 37 vs,eRwsG Ed.cells 3 68 (inL left ed) vs,eInts al (.slice AK al.length cK),eBlk rb 39 [.slice none 0 0,.int .i64 0,.slice none 0 0,.slice none 0 0]] w13) := S11.drop1
              clear S11 o3 y1
              have o3 := BlkAt.cell (S12.out.get 1 rfl) 3; simp only [List.getElem?_cons_succ,List.getElem?_cons_zero] at o3
              have o3f := BlkAt.free (S12.out.get 1 rfl) 3
              have S13 : Hid (Sep w.heap.size w [eBlk xb 68 [.int .i64 xs,.int .i64 xev,.int .i64 (d : Int)],eBlk nb 39 [.slice AK al.length cK,.int .i64 0,.slice AM ms.length cM,.slice A3' (es ++ [(⟨(i : Int),xev,(t : Int)⟩ : Ed)]).length c3'],eMap keyI veI mp f,eInts l (.slice (some ⟨bo,oo,none⟩) l.length cO),eInts ms (.slice AM ms.length cM),eEds (es ++ [(⟨(i : Int),xev,(t : Int)⟩ : Ed)]) (.slice A3' (es ++ [(⟨(i : Int),xev,(t : Int)⟩ : Ed)]).length c3'),eBlk eb 37 vs,eRwsG Ed.cells 3 68 (inL left ed) vs,eInts al (.slice AK al.length cK),eBlk rb 39 [.slice none 0 0,.int .i64 0,.slice none 0 0,.slice none 0 0]] (w13.setCell ⟨nb,3,none⟩ (.slice A3' (es.length + 1) c3'))) := by
               have h := S12.out.set 1 rfl 3 (.slice A3' (es.length + 1) c3')
               rw [show (es ++ [(⟨(i : Int),xev,(t : Int)⟩ : Ed)]).length = es.length + 1 by simp]
               exact h
              clear S12
              go_wp2_with fail
              go_roundw
              case rel => exact ⟨j + 1,l,f,(es ++ [(⟨(i : Int),xev,(t : Int)⟩ : Ed)]),(some ⟨bo,oo,none⟩),cO,A3',c3',by go_num,by first | rfl | simp,by omega,HSI.out,UIN.out,NFN.out,HMN.out,S13.out.drop1⟩
              case measure => simp [intOf]; omega
            | none =>
              have hft := NF.out.b _ hfd
              rw [hfd] at hlk
              simp only [Option.getD_none,Option.isSome_none,veI,keyI] at hlk
              have UIN : Hid (SvI N ed left i (j + 1) (l ++ [(d : Int)]) (es ++ [⟨(i : Int),xev,(l.length : Int)⟩])) := UI.out.edge (m := [(d : Int)]) HSI.out HX.out HUP.out (t := l.length) (by simp) (.inr ⟨rfl,hft,rfl,by show (0 : Int) ≤ (d : Int); omega,by show (d : Int) < (N : Int); omega⟩)
              have NFN : Hid (NumF (l ++ [(d : Int)]) (fun u : Int => if u = (d : Int) then some (l.length : Int) else f u)) := NF.out.push hft
              have HMN : Hid (ms = mkV (mG mr (l ++ [(d : Int)])) i) := by rw [Hid,mkV_more (by omega)]; exact HM.out
              clear hfd hft NF HM UI
              go_upto_region 22 with fail
              refine wp_world (fun V => Hid (Sep w.heap.size w [eBlk xb 68 [.int .i64 xs,.int .i64 xev,.int .i64 (d : Int)],eBlk nb 39 [.slice AK al.length cK,.int .i64 0,.slice AM ms.length cM,.slice AE es.length cE],eMap keyI veI mp f,eInts l (.slice (some ⟨bo,oo,none⟩) l.length cO),eInts ms (.slice AM ms.length cM),eEds es (.slice AE es.length cE),eBlk eb 37 vs,eRwsG Ed.cells 3 68 (inL left ed) vs,eInts al (.slice AK al.length cK),eBlk rb 39 [.slice none 0 0,.int .i64 0,.slice none 0 0,.slice none 0 0]] V)) S2 fun V S2 => ?_
              clear hlk x2
              have x2 := BlkAt.cell (S2.out.get 0 rfl) 2; simp only [List.getElem?_cons_succ,List.getElem?_cons_zero] at x2
              go_upto_region 23 with (refine wpList_mapUpdateS rfl _ _ _ 151 3 3 rfl S2.out 2 rfl okI Try.underlying151 (d : Int) (l.length : Int) rfl rfl rfl ?_)
              intro w11 S4' _
              have S4 := Lib.hid S4'
              clear S4' S2 x2
              have x2 := BlkAt.cell (S4.out.get 0 rfl) 2; simp only [List.getElem?_cons_succ,List.getElem?_cons_zero] at x2
              go_upto_region 24 with (at_builtin; refine wpList_pushS rfl _ _ 36 rfl (S4.out.alloc 3 [.int .i64 (d : Int)]) 4 rfl Try.underlying36 _ 8 intInfo rfl (by decide) rfl (d : Int) _ rfl rfl (one_cell _ _ [_] _ rfl) (encI_one _) (by omega) (by decide) ?_)
              intro A7 c7 w12 S5' _
              have S6 : Hid (Sep w.heap.size w [eBlk xb 68 [.int .i64 xs,.int .i64 xev,.int .i64 (d : Int)],eBlk nb 39 [.slice AK al.length cK,.int .i64 0,.slice AM ms.length cM,.slice AE es.length cE],eMap keyI veI mp (fun u : Int => if u = (d : Int) then some (l.length : Int) else f u),eInts (l ++ [(d : Int)]) (.slice A7 (l ++ [(d : Int)]).length c7),eInts ms (.slice AM ms.length cM),eEds es (.slice AE es.length cE),eBlk eb 37 vs,eRwsG Ed.cells 3 68 (inL left ed) vs,eInts al (.slice AK al.length cK),eBlk rb 39 [.slice none 0 0,.int .i64 0,.slice none 0 0,.slice none 0 0]] w12) := by
               rw [show (l ++ [(d : Int)]).length = l.length + 1 by simp]
               exact S5'.drop1
              clear S5' S4 x2
              go_upto_region 24 with fail
              have o3 := BlkAt.cell (S6.out.get 1 rfl) 3; simp only [List.getElem?_cons_succ,List.getElem?_cons_zero] at o3
              have y1 := BlkAt.cell (S6.out.get 0 rfl) 1; simp only [List.getElem?_cons_succ,List.getElem?_cons_zero] at y1
              go_wp2_with (at_builtin; refine wpList_pushS rfl _ _ 37 rfl (S6.out.alloc 68 [.int .i64 (i : Int),.int .i64 xev,.int .i64 (l.length : Int)]) 6 rfl Try.underlying37 _ 24 edInfo rfl (by decide) rfl (⟨(i : Int),xev,(l.length : Int)⟩ : Ed) _ rfl rfl (fun k u hk => (BlkAt.cell (BlkAt.new _ _ _) k).trans hk) (edOne _) (by omega) (by decide) ?_)
              intro A3' c3' w13 S11 _
              have S12 : Hid (Sep w.heap.size w [eBlk xb 68 [.int .i64 xs,.int .i64 xev,.int .i64 (d : Int)],eBlk nb 39 [.slice AK al.length cK,.int .i64 0,.slice AM ms.length cM,.slice AE es.length cE],eMap keyI veI mp (fun u : Int => if u = (d : Int) then some (l.length : Int) else f u),eInts (l ++ [(d : Int)]) (.slice A7 (l ++ [(d : Int)]).length c7),eInts ms (.slice AM ms.length cM),eEds (es ++ [(⟨(i : Int),xev,(l.length : Int)⟩ : Ed)]) (.slice A3' (es.length + 1) c3'),eBlk eb 37 vs,eRwsG Ed.cells 3 68 (inL left ed) vs,eInts al (.slice AK al.length cK),eBlk rb 39 [.slice none 0 0,.int .i64 0,.slice none 0 0,.slice none 0 0]] w13) := by
               have h := S11.drop1
               rw [show (l ++ [(d : Int)]).length = l.length + 1 by simp]
               exact h
              clear S11 o3 y1
              have o3 := BlkAt.cell (S12.out.get 1 rfl) 3; simp only [List.getElem?_cons_succ,List.getElem?_cons_zero] at o3
              have o3f := BlkAt.free (S12.out.get 1 rfl) 3
              have S13 : Hid (Sep w.heap.size w [eBlk xb 68 [.int .i64 xs,.int .i64 xev,.int .i64 (d : Int)],eBlk nb 39 [.slice AK al.length cK,.int .i64 0,.slice AM ms.length cM,.slice A3' (es ++ [(⟨(i : Int),xev,(l.length : Int)⟩ : Ed)]).length c3'],eMap keyI veI mp (fun u : Int => if u = (d : Int) then some (l.length : Int) else f u),eInts (l ++ [(d : Int)]) (.slice A7 (l ++ [(d : Int)]).length c7),eInts ms (.slice AM ms.length cM),eEds (es ++ [(⟨(i : Int),xev,(l.length : Int)⟩ : Ed)]) (.slice A3' (es ++ [(⟨(i : Int),xev,(l.length : Int)⟩ : Ed)]).length c3'),eBlk eb 37 vs,eRwsG Ed.cells 3 68 (inL left ed) vs,eInts al (.slice AK al.length cK),eBlk rb 39 [.slice none 0 0,.int .i64 0,.slice none 0 0,.slice none 0 0]] (w13.setCell ⟨nb,3,none⟩ (.slice A3' (es.length + 1) c3'))) := by
               have h := S12.out.set 1 rfl 3 (.slice A3' (es.length + 1) c3')
               rw [show (es ++ [(⟨(i : Int),xev,(l.length : Int)⟩ : Ed)]).length = es.length + 1 by simp]
               exact h
              clear S12
              go_wp2_with fail
              go_roundw
              case rel => exact ⟨j + 1,(l ++ [(d : Int)]),(fun u : Int => if u = (d : Int) then some (l.length : Int) else f u),(es ++ [(⟨(i : Int),xev,(l.length : Int)⟩ : Ed)]),A7,c7,A3',c3',by go_num,by first | rfl | simp,by omega,get_keep HSI.out _,UIN.out,NFN.out,HMN.out,S13.out.drop1⟩
              case measure => simp [intOf]; omega
          · obtain rfl : j = (inL left ed s).length := by omega
            have UIN : Hid (SvI N ed left (i + 1) 0 l es) := SvI.next (s := (s : Int)) UI.out HSI.out
            have HMG : Hid (mG mr l i = decide ((s : Int) ∈ mr)) := mG_at HSI.out
            obtain ⟨z,hz⟩ : ∃ z,z = decide ((s : Int) ∈ mr) := ⟨_,rfl⟩
            have HZ := Lib.hid hz
            have HS2 := Lib.hid (HS.out.below S.out.below)
            have p2 := HS2.out.b.cell 2
            simp only [sySt,List.getElem?_cons_succ,List.getElem?_cons_zero] at p2
            have Q1 := Lib.hid (fun j => contains_quiet A2 c2 mr (s : Int) wr j HS2.out.a.mr hml z (by rw [hz]; simp))
            clear hz hb UI
            cases z
            · have HMN : Hid (ms = mkV (mG mr l) (i + 1)) := by rw [Hid,mkV_no (by rw [HMG.out]; exact HZ.out.symm)]; exact HM.out
              clear HM
              go_wp2_with fail
              go_quiet (with_reducible exact Q1.out _)
              go_wp2_with fail
              go_roundw
              case rel => exact ⟨i + 1,l,f,ms,es,_,cO,AM,cM,AE,cE,by go_num,rfl,UIN.out,NF.out,HMN.out,S.out.draws _⟩
              case measure => simp [intOf]; omega
            · have HMN : Hid (ms ++ [(i : Int)] = mkV (mG mr l) (i + 1)) := by rw [Hid,mkV_yes (by rw [HMG.out]; exact HZ.out.symm),← HM.out]
              clear HM
              go_wp2_with fail
              go_quiet (with_reducible exact Q1.out _)
              go_upto_region 27 with fail
              refine wp_world (fun V => Hid (Sep w.heap.size w [eBlk nb 39 [.slice AK al.length cK,.int .i64 0,.slice AM ms.length cM,.slice AE es.length cE],eMap keyI veI mp f,eInts l (.slice (some ⟨bo,oo,none⟩) l.length cO),eInts ms (.slice AM ms.length cM),eEds es (.slice AE es.length cE),eBlk eb 37 vs,eRwsG Ed.cells 3 68 (inL left ed) vs,eInts al (.slice AK al.length cK),eBlk rb 39 [.slice none 0 0,.int .i64 0,.slice none 0 0,.slice none 0 0]] V)) (S.out.draws _) fun V S2 => ?_
              clear S Q1 HS2 p2 cs
              have o2 := BlkAt.cell (S2.out.get 0 rfl) 2; simp only [List.getElem?_cons_succ,List.getElem?_cons_zero] at o2
              go_wp2_with (at_builtin; refine wpList_pushS rfl _ _ 36 rfl (S2.out.alloc 3 [.int .i64 (i : Int)]) 4 rfl Try.underlying36 _ 8 intInfo rfl (by decide) rfl (i : Int) _ rfl rfl (one_cell _ _ [_] _ rfl) (encI_one _) (by omega) (by decide) ?_)
              intro A6 c6 w6 S9 _
              have S10 : Hid (Sep w.heap.size w [eBlk nb 39 [.slice AK al.length cK,.int .i64 0,.slice AM ms.length cM,.slice AE es.length cE],eMap keyI veI mp f,eInts l (.slice (some ⟨bo,oo,none⟩) l.length cO),eInts (ms ++ [(i : Int)]) (.slice A6 (ms.length + 1) c6),eEds es (.slice AE es.length cE),eBlk eb 37 vs,eRwsG Ed.cells 3 68 (inL left ed) vs,eInts al (.slice AK al.length cK),eBlk rb 39 [.slice none 0 0,.int .i64 0,.slice none 0 0,.slice none 0 0]] w6) := S9.drop1
              clear S9 S2 o2
              have o2 := BlkAt.cell (S10.out.get 0 rfl) 2; simp only [List.getElem?_cons_succ,List.getElem?_cons_zero] at o2
              have o2f := BlkAt.free (S10.out.get 0 rfl) 2
              have S11 : Hid (Sep w.heap.size w [eBlk nb 39 [.slice AK al.length cK,.int .i64 0,.slice A6 (ms ++ [(i : Int)]).length c6,.slice AE es.length cE],eMap keyI veI mp f,eInts l (.slice (some ⟨bo,oo,none⟩) l.length cO),eInts (ms ++ [(i : Int)]) (.slice A6 (ms ++ [(i : Int)]).length c6),eEds es (.slice AE es.length cE),eBlk eb 37 vs,eRwsG Ed.cells 3 68 (inL left ed) vs,eInts al (.slice AK al.length cK),eBlk rb 39 [.slice none 0 0,.int .i64 0,.slice none 0 0,.slice none 0 0]] (w6.setCell ⟨nb,2,none⟩ (.slice A6 (ms.length + 1) c6))) := by
               have h := S10.out.set 0 rfl 2 (.slice A6 (ms.length + 1) c6)
               rw [show (ms ++ [(i : Int)]).length = ms.length + 1 by simp]
               exact h
              clear S10
              go_wp2_with fail
              go_roundw
              case rel => exact ⟨i + 1,l,f,ms ++ [(i : Int)],es,_,cO,A6,c6,AE,cE,by go_num,rfl,UIN.out,NF.out,HMN.out,S11.out⟩
              case measure => simp [intOf]; omega
       · have hie : i = l.length := by have := UI.out.il; omega
         have HSV : Hid (SvOk ⟨al,(N : Int),mr,ed⟩ left ⟨al,(l.length : Int),ms,es⟩ l) := by
          have h1 := UI.out
          have h2 := HM.out
          rw [hie] at h1 h2
          refine ⟨rfl,rfl,h2,fun g => ?_,fun _ _ => by rw [Int.toNat_natCast]; exact h1⟩
          dsimp only at g
          rcases g with g | g
          · omega
          · rw [HL0.out] at g; cases g
         obtain rfl := hie
         clear UI HM NF
         have o1 := BlkAt.cell (S.out.get 0 rfl) 1; simp only [List.getElem?_cons_succ,List.getElem?_cons_zero] at o1
         have o1f := BlkAt.free (S.out.get 0 rfl) 1
         have S2 : Hid (Sep w.heap.size w [eBlk nb 39 [.slice AK al.length cK,.int .i64 (l.length : Int),.slice AM ms.length cM,.slice AE es.length cE],eMap keyI veI mp f,eInts l (.slice AO l.length cO),eInts ms (.slice AM ms.length cM),eEds es (.slice AE es.length cE),eBlk eb 37 vs,eRwsG Ed.cells 3 68 (inL left ed) vs,eInts al (.slice AK al.length cK),eBlk rb 39 [.slice none 0 0,.int .i64 0,.slice none 0 0,.slice none 0 0]] (wr.setCell ⟨nb,1,none⟩ (.int .i64 (l.length : Int)))) := S.out.set 0 rfl 1 (.int .i64 (l.length : Int))
         clear S
         go_upto_region 29 with fail
         refine wp_world (fun V => Hid (Sep w.heap.size w [eBlk nb 39 [.slice AK al.length cK,.int .i64 (l.length : Int),.slice AM ms.length cM,.slice AE es.length cE],eMap keyI veI mp f,eInts l (.slice AO l.length cO),eInts ms (.slice AM ms.length cM),eEds es (.slice AE es.length cE),eBlk eb 37 vs,eRwsG Ed.cells 3 68 (inL left ed) vs,eInts al (.slice AK al.length cK),eBlk rb 39 [.slice none 0 0,.int .i64 0,.slice none 0 0,.slice none 0 0]] V)) S2 fun W9 S3 => ?_
         clear S2 o1 o1f
         have o0 := BlkAt.cell (S3.out.get 0 rfl) 0; have o1 := BlkAt.cell (S3.out.get 0 rfl) 1; have o2 := BlkAt.cell (S3.out.get 0 rfl) 2; have o3 := BlkAt.cell (S3.out.get 0 rfl) 3; simp only [List.getElem?_cons_succ,List.getElem?_cons_zero] at o0 o1 o2 o3
         have r0 := BlkAt.cell (S3.out.get 8 rfl) 0; have r1 := BlkAt.cell (S3.out.get 8 rfl) 1; have r2 := BlkAt.cell (S3.out.get 8 rfl) 2; have r3 := BlkAt.cell (S3.out.get 8 rfl) 3; simp only [List.getElem?_cons_succ,List.getElem?_cons_zero] at r0 r1 r2 r3
         have f0 := BlkAt.free (S3.out.get 8 rfl) 0
         have f1 := BlkAt.free (S3.out.get 8 rfl) 1
         have f2 := BlkAt.free (S3.out.get 8 rfl) 2
         have f3 := BlkAt.free (S3.out.get 8 rfl) 3
         have S4 : Hid (Sep w.heap.size w [eBlk nb 39 [.slice AK al.length cK,.int .i64 (l.length : Int),.slice AM ms.length cM,.slice AE es.length cE],eMap keyI veI mp f,eInts l (.slice AO l.length cO),eInts ms (.slice AM ms.length cM),eEds es (.slice AE es.length cE),eBlk eb 37 vs,eRwsG Ed.cells 3 68 (inL left ed) vs,eInts al (.slice AK al.length cK),eBlk rb 39 [.slice AK al.length cK,.int .i64 (l.length : Int),.slice AM ms.length cM,.slice AE es.length cE]] ((((W9.setCell ⟨rb,0,none⟩ (.slice AK al.length cK)).setCell ⟨rb,1,none⟩ (.int .i64 (l.length : Int))).setCell ⟨rb,2,none⟩ (.slice AM ms.length cM)).setCell ⟨rb,3,none⟩ (.slice AE es.length cE))) := (((S3.out.set 8 rfl 0 _).set 8 rfl 1 _).set 8 rfl 2 _).set 8 rfl 3 _
         have q0 := BlkAt.cell (S4.out.get 8 rfl) 0; have q1 := BlkAt.cell (S4.out.get 8 rfl) 1; have q2 := BlkAt.cell (S4.out.get 8 rfl) 2; have q3 := BlkAt.cell (S4.out.get 8 rfl) 3; simp only [List.getElem?_cons_succ,List.getElem?_cons_zero] at q0 q1 q2 q3
         clear S3
         go_wp2_with fail
         refine bodyPost_ret (v := .tuple #[.agg #[.slice AK al.length cK,.int .i64 (l.length : Int),.slice AM ms.length cM,.slice AE es.length cE],.slice AO l.length cO]) (by simp [results,Try.results55,go_sem, *]) rfl ?_
         exact ⟨⟨al,(l.length : Int),ms,es⟩,⟨AK,cK,AM,cM,AE,cE⟩,l,AO,cO,rfl,HSV.out,S4.out.pick [7,3,4,2] (by decide)⟩
end Go.Proofs.Ytccfcaejlohahaa
