/-
  Queues among things that lie apart.
  reach: the states from which others are reached.
  Plain: how many words of a length lead to a state.
  reach: sets of states, flags; the states from which marked ones are reached.
  A range over a function, with memory told by Sep: the loop's own two blocks are things among the others.
-/
import Derived.Test.YtimdepdbcdbikaaGreatBas01
import Derived.Test.YtimdepdbcdbikaaGreatBas05
import Derived.Test.YtimdepdbcdbikaaGreatBas02
import Derived.Test.YtimdepdbcdbikaaGreatBas04
import Derived.Test.YtimdepdbcdbikaaGreatBas03
import Derived.RangeFuncWrites
import Derived.RangeFuncCalls
import Derived.RangeFuncLeaves
import Derived.RegionTactic
import Derived.OrdersIn
import Derived.Deep.RegionHeld
set_option linter.unusedSimpArgs false
set_option linter.unusedVariables false
namespace Go.Proofs.YtimdepdbcdbikaaGreat
open Go.RowKit
set_option maxRecDepth 100000
section
abbrev eQ (l : List Int) (v : Value) : Ent := eOwnO encI 1 3 l v
section
variable {n : Nat} {w0 w : World} {es : List Ent}
theorem wpList_pushQ {P : Program} {α : Type} {enc : α → List Value} {k T : Nat} {l : List α} {v : Value} {ops : Array Oper} {rest : List Oper} {o : Oper} {a : Act} {Q : Exit → Act → World → Prop} (hkk : ∀ x,(enc x).length = k) (hgd : o.guard = none) (s x : Operand) (t : TypeId)
 (ho : o.op = .call { callee := .builtin .append,args := #[s,x],argTypes := #[t,t] }) (S : Sep n w0 es w) (i : Nat) (hei : es[i]? = some (eOwnO enc k T l v))
 (ht : P.underlying t = some (.slice T)) (z : Value) (bytes : Nat) (hi : (P.info? T).map (fun i => (i.zero,i.size,i.bytes)) = some (some z,k,bytes))
 (hzs : z.cells.size = k) (hk : 0 < k) (hs : a.eval s = v) (y : α) (g : Nat) (hx : a.eval x = .slice (some ⟨g,0,none⟩) 1 1) (hc : ∀ j u,(enc y)[j]? = some u → w.cell? ⟨g,j,none⟩ = some u) (h1 : ∀ u ∈ enc y,u.oneCell' = true)
 (hl : l.length ≤ 1048576) (hby : bytes ≤ 4096)
 (h : ∀ A' c' w',Sep n w0 (es.set i (eOwnO enc k T (l ++ [y]) (.slice A' (l.length + 1) c'))) w' → wpList P ops Q rest (a.put o.dst (.slice A' (l.length + 1) c')) w') :
 wpList P ops Q (o :: rest) a w :=
 wpList_pushO hgd s x t ho hkk (S.get i hei) ht z bytes hi hzs hk hs y g hx hc h1 hl hby (Nat.zero_le _) fun A' c' w' ho' hg hat => h A' c' w' (S.chg i hei _ (Off.grown hg) ho' (fun g hg => by
  simp only [eOwnO,Option.mem_toList] at hg ⊢
  rcases hat with h | ⟨j,h,hj⟩
  · exact .inl (by rw [← h]; exact hg)
  · rw [h] at hg; cases hg; exact .inr hj))
theorem OwnO.cap {α : Type} {enc : α → List Value} {k T B : Nat} {l : List α} {A : Option Addr} {c : Nat} {w : World} (h : OwnO enc k T B l (.slice A l.length c) w) : l.length ≤ c := by
 rcases h with ⟨h1,h2⟩ | ⟨g',off',cap',cs,e,hB,hb,hn,hm,hs,hc⟩
 · rw [h2]; exact Nat.zero_le _
 · cases e; exact hn
theorem Sep.formQ {α : Type} {enc : α → List Value} {k T : Nat} (S : Sep n w0 es w) (i : Nat) {l : List α} {v : Value} (hi : es[i]? = some (eOwnO enc k T l v)) : ∃ A c,v = .slice A l.length c ∧ l.length ≤ c := by
 obtain ⟨A,c,rfl⟩ := OwnO.form (S.get i hi)
 exact ⟨A,c,rfl,OwnO.cap (S.get i hi)⟩
theorem Sep.intsQ (S : Sep n w0 es w) (i : Nat) {l : List Int} {A : Option Addr} {c : Nat} (hi : es[i]? = some (eQ l (.slice A l.length c))) : IntsAt w A l := OwnO.reads (fun _ => rfl) (S.get i hi)
theorem Sep.asQ {α : Type} {enc : α → List Value} {k T : Nat} {l : List α} {v : Value} (S : Sep n w0 es w) (i : Nat) (hi : es[i]? = some (eOwn enc k T l v)) : Sep n w0 (es.set i (eOwnO enc k T l v)) w :=
 S.as i hi _ (fun h => OwnO.of h) (fun g hg => hg)
def negC (N : Nat) (d : Nat → Int) : Nat := ((List.range N).filter fun s => decide (d s < 0)).length
def wNeg (w : World) (g N : Nat) : Nat := ((List.range N).filter fun s => match w.cell? ⟨g,s,none⟩ with
 | some (.int _ x) => decide (x < 0)
 | _ => false).length
theorem wNeg_eq {w : World} {g T N : Nat} {d : Nat → Int} (h : BlkAt w g T (mkI N d)) : wNeg w g N = negC N d := by
 unfold wNeg negC
 refine congrArg List.length (List.filter_congr fun s hs => ?_)
 rw [(h.cell s).trans (mkI_get (by simpa using hs))]
theorem negC_put {d : Nat → Int} {p : Nat} {x : Int} (hd : d p < 0) (hx : 0 ≤ x) : ∀ (N : Nat),negC N (fun s => if s = p then x else d s) + (if p < N then 1 else 0) = negC N d := by
 intro N
 induction N with
 | zero => simp [negC]
 | succ N ih =>
   simp only [negC] at ih ⊢
   rw [List.range_succ,List.filter_append,List.filter_append,List.length_append,List.length_append]
   by_cases e : N = p
   · subst e
     rw [if_neg (Nat.lt_irrefl N)] at ih
     rw [if_pos (Nat.lt_succ_self N)]
     have h1 : ¬ x < 0 := by omega
     have e1 : ([N].filter fun s => decide ((if s = N then x else d s) < 0)) = [] := by simp [h1]
     have e2 : ([N].filter fun s => decide (d s < 0)) = [N] := by simp [hd]
     rw [e1,e2]
     have := ih
     simp only [List.length_nil,List.length_cons]
     omega
   · have h2 : ([N].filter fun s => decide ((if s = p then x else d s) < 0)).length = ([N].filter fun s => decide (d s < 0)).length := by
      simp only [List.filter_cons,List.filter_nil,if_neg e]
     rw [h2]
     by_cases g : p < N
     · rw [if_pos g] at ih; rw [if_pos (by omega)]; omega
     · rw [if_neg g] at ih; rw [if_neg (by omega)]; omega
theorem Sep.tailQ {α : Type} {enc : α → List Value} {k T : Nat} {l : List α} {x : α} {g off nn cap : Nat} (hk : ∀ x,(enc x).length = k) (S : Sep n w0 es w) (i : Nat) (hi : es[i]? = some (eOwnO enc k T (x :: l) (.slice (some ⟨g,off,none⟩) nn cap))) :
 ∃ A,(if cap = 1 then some (⟨g,off,none⟩ : Addr) else some ⟨g,off + k,none⟩) = some A ∧ Sep n w0 (es.set i (eOwnO enc k T l (.slice (some A) l.length (cap - 1)))) w := by
 obtain ⟨A,h1,h2⟩ := OwnO.tail hk (S.get i hi)
 refine ⟨A,h1,S.as i hi _ (fun _ => h2) (fun b hb => ?_)⟩
 have hA : A.block = g := by
  split at h1
  · cases h1; rfl
  · cases h1; rfl
 simpa [eOwnO,Value.ownBlock,hA] using hb
end
end
theorem intsInfo : (Tryz.prog.info? 31).map (fun i => (i.zero,i.size,i.bytes)) = some (some (.slice none 0 0),1,24) := by kernel_rfl
def lenOf : Value → Nat
 | .slice _ n _ => n
 | _ => 0
def GivesBw (a : Au) (tg : List Int) (w : World) (e : Ending) (w' : World) : Prop := ∃ g d,e = .returned (.slice (some ⟨g,0,none⟩) a.n.toNat a.n.toNat) ∧ Hid (Sep w.heap.size w [eBlk g 3 (mkI a.n.toNat d)] w') ∧ Hid (∀ s : Nat,s < a.n.toNat → (0 ≤ d s ↔ ∃ u,runV a.ed s u ∈ tg))
set_option maxHeartbeats 8000000 in
theorem backward_c (a : Au) (p : AuP) (g0 : Nat) (AT : Option Addr) (cT : Nat) (tg : List Int) (w : World) (hr : a.Right) (hA : Au.At w a p) (hT : IntsAt w AT tg) (hnd : tg.Nodup) (hrg : ∀ v,v ∈ tg → 0 ≤ v ∧ v < a.n) :
 Calls Tryz.prog 103 #[.agg (grCells a p g0).toArray,.slice AT tg.length cT] w (GivesBw a tg w) := by
 have h0 := hr.n0
 have hn := hr.n1
 have HS : Hid (∀ (i : Nat) x,a.ed[i]? = some x → (0 ≤ x.src ∧ x.src < a.n) ∧ 0 ≤ x.dst ∧ x.dst < a.n) := fun i x hx => ⟨⟨(hr.edge hx).1,(hr.edge hx).2.1⟩,(hr.edge hx).2.2.1,(hr.edge hx).2.2.2.1⟩
 have HE := Lib.hid hA.ed
 have hle := ed_len hr
 have HR := Lib.hid hr
 obtain ⟨al,n,mr,ed⟩ := a
 obtain ⟨A1,c1,A2,c2,A3,c3⟩ := p
 obtain ⟨N,rfl⟩ := Int.eq_ofNat_of_zero_le h0
 dsimp only [grCells] at HS hn HE hle hrg ⊢
 have B0 : Hid (Bwd ⟨al,N,mr,ed⟩ N tg tg (fun s => if (s : Int) ∈ tg then (0 : Int) else -1) 0 0) := Bwd.start hnd hrg
 have htl : tg.length ≤ N := B0.out.len
 have HRG := Lib.hid hrg
 have HT := Lib.hid hT
 have HNN : Hid (∀ v,v ∈ tg → 0 ≤ v) := fun v hv => (hrg v hv).1
 have hmk := make_run (P := Tryz.prog) 47 31 (.slice none 0 0) 24 Tryz.underlying47 intsInfo rfl N (by omega) (by omega)
 have hmk2 := make_run (P := Tryz.prog) 31 3 (.int .i64 0) 8 Tryz.underlying31 intInfo rfl N (by omega) (by omega)
 clear hr hA h0 hT hnd hrg
 rw [show ((N : Int).toNat + 1) = N + 1 from rfl]
 go_enter Tryz.func103,Tryz.ntmps103
 go_upto_region 1 with fail
 refine wp_world (fun W => Sep w.heap.size w [eBlk w.heap.size 140 [.slice A1 al.length c1,.int .i64 (N : Int),.slice A2 mr.length c2,.slice A3 ed.length c3,.slice (some ⟨g0,0,none⟩) (N + 1) (N + 1)]] W) ((Sep.here w).alloc' _ [_,_,_,_,_] rfl rfl) fun W S => ?_
 have S0 := Lib.hid S
 clear S
 have b1 := qkC S0.out 0 rfl 1 rfl
 obtain ⟨gi,hgi⟩ : ∃ gi,gi = W.heap.size := ⟨_,rfl⟩
 go_upto_region 2 with fail
 rw [← hgi]
 refine wp_world (fun W2 => Sep w.heap.size w ([eBlk gi 31 ((List.range N).map fun _ => .slice none 0 0),eBlk w.heap.size 140 [.slice A1 al.length c1,.int .i64 (N : Int),.slice A2 mr.length c2,.slice A3 ed.length c3,.slice (some ⟨g0,0,none⟩) (N + 1) (N + 1)]] ++ rowsE N (fun s => predsOf (ed.take 0) s) (fun _ => .slice none 0 0)) W2) ?_ fun W2 S => ?_
 · have h := (S0.out.alloc' 31 (List.replicate N (.slice none 0 0)) (o := Obj.cells (Array.replicate N (.slice none 0 0)) 31) (by simp) hgi).rows N
   rw [rowsV_rep] at h
   exact h
 have S1 := Lib.hid S
 clear S S0 b1 hgi hmk
 have b3 := qkC S1.out 1 rfl 3 rfl
 go_wp2_with fail
 go_loopw [24] (fun i wr => ∃ (k : Nat) (vs : Nat → Value),i = .int .i64 k ∧ k ≤ ed.length ∧ Hid (Sep w.heap.size w ([eBlk gi 31 ((List.range N).map vs),eBlk w.heap.size 140 [.slice A1 al.length c1,.int .i64 (N : Int),.slice A2 mr.length c2,.slice A3 ed.length c3,.slice (some ⟨g0,0,none⟩) (N + 1) (N + 1)]] ++ rowsE N (fun s => predsOf (ed.take k) s) vs) wr)) (fun i _ => ed.length - (intOf i).toNat)
 case atStart => exact ⟨0,fun _ => .slice none 0 0,rfl,Nat.zero_le _,S1.out⟩
 case round =>
  clear S1 b3
  obtain ⟨k,vs,rfl,hk,S⟩ := hrel
  by_cases hlt : k < ed.length
  · obtain ⟨b,off,x,hAe,hb,hx,y0,y1,y2⟩ := EdsAt.at (HE.out.below EdE.stays S.out.below) hlt
    subst hAe
    obtain ⟨s,hs⟩ := Int.eq_ofNat_of_zero_le (HS.out k x hx).1.1
    obtain ⟨d,hd⟩ := Int.eq_ofNat_of_zero_le (HS.out k x hx).2.1
    have hdN : d < N := by have := (HS.out k x hx).2.2; omega
    obtain ⟨ye,hye⟩ : ∃ z,z = x.ev := ⟨_,rfl⟩
    have HLS : Hid (upd (fun s => predsOf (ed.take k) s) d (predsOf (ed.take k) d ++ [(s : Int)]) = fun s => predsOf (ed.take (k + 1)) s) := by
     funext t
     rw [List.take_add_one,hx,Option.toList_some,predsOf_snoc,hd,hs]
     by_cases e : t = d
     · subst e; rw [upd_same,if_pos rfl]
     · rw [upd_other e,if_neg (by omega)]
    have hpl : (predsOf (ed.take k) d).length ≤ 1048576 := by
     have h1 := predsOf_len (ed.take k) d
     rw [List.length_take] at h1
     omega
    rw [hs] at y0
    rw [← hye] at y1
    rw [hd] at y2
    clear hx hs hd hye hb
    go_upto_region 5 with fail
    refine wp_world (fun W => ∃ bx,bx = wr.heap.size ∧ Sep w.heap.size w ([eBlk bx 76 [.int .i64 (s : Int),.int .i64 ye,.int .i64 (d : Int)],eBlk gi 31 ((List.range N).map vs),eBlk w.heap.size 140 [.slice A1 al.length c1,.int .i64 (N : Int),.slice A2 mr.length c2,.slice (some ⟨b,off,none⟩) ed.length c3,.slice (some ⟨g0,0,none⟩) (N + 1) (N + 1)]] ++ rowsE N (fun s => predsOf (ed.take k) s) vs) W) ⟨_,rfl,S.out.alloc' _ [_,_,_] rfl rfl⟩ fun W S' => ?_
    obtain ⟨bx,hbx,S'⟩ := S'
    rw [← hbx]
    have S3 := Lib.hid S'
    clear S' hbx S y0 y1 y2
    obtain ⟨AR,cR,hvd⟩ := S3.out.form (3 + d) (rowsE_get (A := [_,_,_]) hdN)
    have HVD := Lib.hid hvd
    clear hvd
    have S1 := Lib.hid S3.out.drew
    refine wp_region_held_drew (S := (fun V => Sep w.heap.size w [eBlk bx 76 [.int .i64 (s : Int),.int .i64 ye,.int .i64 (d : Int)]] V)) (by kernel_rfl) ?_ (fun hHeld => ?_)
    · exact S1.out.left.pick [0] (by decide)
    generalize hwz : W.drew = w1 at *
    clear hwz
    refine tkP 0 rfl hHeld ?_
    try simp only [sx]
    refine tkP 1 rfl hHeld ?_
    try simp only [sx]
    refine tkH 2 rfl (v := ?_) (by kernel_rfl) ?_ hHeld ?_
    rotate_left
    · intro V hSw
      have b0 := qkC hSw 0 rfl 0 rfl
      have b2 := qkC hSw 0 rfl 2 rfl
      clear hSw
      first | (go_simp; done) | (go_simp; with_reducible rfl)
    try simp only [sx]
    refine tkP 3 rfl hHeld ?_
    try simp only [sx]
    refine tkP 4 rfl hHeld ?_
    try simp only [sx]
    refine tkH 5 rfl (v := ?_) (by kernel_rfl) ?_ hHeld ?_
    rotate_left
    · intro V hSw
      have b0 := qkC hSw 0 rfl 0 rfl
      have b2 := qkC hSw 0 rfl 2 rfl
      clear hSw
      first | (go_simp; done) | (go_simp; with_reducible rfl)
    try simp only [sx]
    refine tkP 6 rfl hHeld ?_
    try simp only [sx]
    refine tkP 8 rfl hHeld ?_
    try simp only [sx]
    refine tkH 9 rfl (v := ?_) (by kernel_rfl) ?_ hHeld ?_
    rotate_left
    · intro V hSw
      have b0 := qkC hSw 0 rfl 0 rfl
      have b2 := qkC hSw 0 rfl 2 rfl
      clear hSw
      first | (go_simp; done) | (go_simp; with_reducible rfl)
    try simp only [sx]
    refine wpAnyH_ready (rs := [7,10]) (by kernel_rfl) (by simp) ?_
    refine AllReadyH.cons rfl (fun K hK => ?_) (AllReadyH.cons rfl (fun K hK => ?_) AllReadyH.nil)
    · skip
      have il := (BlkAt.cell (S1.out.get 1 rfl) d).trans (rowsV_get hdN)
      rw [HVD.out] at il
      go_simp
      refine hK.out _ _ ?_ (fun hHeld => ?_)
      · exact S1.out.left.pick [0] (by decide)
      clear hK K
      try simp only [sx]
      refine rdH 10 rfl fun K hK => ?_
      go_simp
      obtain ⟨nnw,hnnw⟩ : ∃ n,n = w1.heap.size := ⟨_,rfl⟩
      obtain ⟨w2,hw2⟩ : ∃ v,v = w1.alloc (.cells #[(.int .i64 (s : Int))] 3) := ⟨_,rfl⟩
      rw [← hw2,← hnnw]
      have S2 : Hid (Sep w.heap.size w ([eBlk nnw 3 [(.int .i64 (s : Int))],eBlk bx 76 [.int .i64 (s : Int),.int .i64 ye,.int .i64 (d : Int)],eBlk gi 31 ((List.range N).map vs),eBlk w.heap.size 140 [.slice A1 al.length c1,.int .i64 (N : Int),.slice A2 mr.length c2,.slice (some ⟨b,off,none⟩) ed.length c3,.slice (some ⟨g0,0,none⟩) (N + 1) (N + 1)]] ++ rowsE N (fun s => predsOf (ed.take k) s) vs) w2) := by rw [hw2,hnnw]; exact S1.out.alloc 3 [(.int .i64 (s : Int))]
      skip
      clear hw2 hnnw
      refine hK.out _ _ ?_ (fun hHeld => ?_)
      · exact S2.out.left.pick [1] (by decide)
      clear hK K
      try simp only [sx]
      refine rdH 11 rfl fun K hK => ?_
      refine step_pushS rfl (.tmp 35) (.tmp 38) 31 rfl S2.out (4 + d) (rowsE_get (A := [_,_,_,_]) hdN) Tryz.underlying31 _ 8 intInfo rfl (by decide) HVD.out.symm (s : Int) nnw rfl rfl (fun j u hj => (BlkAt.cell (S2.out.get 0 rfl) j).trans hj) (encI_one _) hpl (by decide) ?_
      intro AR2 cR2 w3 S3' _
      have S3 : Hid (Sep w.heap.size w ([eBlk nnw 3 [(.int .i64 (s : Int))],eBlk bx 76 [.int .i64 (s : Int),.int .i64 ye,.int .i64 (d : Int)],eBlk gi 31 ((List.range N).map vs),eBlk w.heap.size 140 [.slice A1 al.length c1,.int .i64 (N : Int),.slice A2 mr.length c2,.slice (some ⟨b,off,none⟩) ed.length c3,.slice (some ⟨g0,0,none⟩) (N + 1) (N + 1)]] ++ rowsE N (upd (fun s => predsOf (ed.take k) s) d (predsOf (ed.take k) d ++ [(s : Int)])) (upd vs d (.slice AR2 ((predsOf (ed.take k) d).length + 1) cR2))) w3) := (congrArg (fun es => Sep w.heap.size w es w3) (rowsE_set (A := [_,_,_,_]) hdN _ _)).mp S3'
      clear S3'
      refine hK.out _ _ ?_ (fun hHeld => ?_)
      · exact S3.out.left.pick [1] (by decide)
      clear hK K
      try simp only [sx]
      refine tkP 12 rfl hHeld ?_
      try simp only [sx]
      refine rdH 13 rfl fun K hK => ?_
      have sc := (BlkAt.cell (S3.out.get 2 rfl) d).trans (rowsV_get hdN)
      have sf := BlkAt.free (S3.out.get 2 rfl) d
      rw [HVD.out] at sc
      go_simp
      obtain ⟨w4,hw4⟩ : ∃ v,v = w3.setCell ⟨gi,d,none⟩ (.slice AR2 ((predsOf (ed.take k) d).length + 1) cR2) := ⟨_,rfl⟩
      rw [← hw4]
      have S4 : Hid (Sep w.heap.size w ([eBlk nnw 3 [(.int .i64 (s : Int))],eBlk bx 76 [.int .i64 (s : Int),.int .i64 ye,.int .i64 (d : Int)],eBlk gi 31 ((List.range N).map (upd vs d (.slice AR2 ((predsOf (ed.take k) d).length + 1) cR2))),eBlk w.heap.size 140 [.slice A1 al.length c1,.int .i64 (N : Int),.slice A2 mr.length c2,.slice (some ⟨b,off,none⟩) ed.length c3,.slice (some ⟨g0,0,none⟩) (N + 1) (N + 1)]] ++ rowsE N (upd (fun s => predsOf (ed.take k) s) d (predsOf (ed.take k) d ++ [(s : Int)])) (upd vs d (.slice AR2 ((predsOf (ed.take k) d).length + 1) cR2))) w4) := by
       have h := S3.out.set 2 rfl d (.slice AR2 ((predsOf (ed.take k) d).length + 1) cR2)
       rw [rowsV_set hdN] at h
       rw [hw4]
       exact h
      clear hw4 sc sf
      refine hK.out _ _ ?_ (fun hHeld => ?_)
      · exact S4.out.left.pick [1] (by decide)
      clear hK K
      try simp only [sx]
      refine wpAnyH_done (by kernel_rfl) ?_ _
      go_wp2_with fail
      go_roundw
      case rel => exact ⟨k + 1,upd vs d (.slice AR2 ((predsOf (ed.take k) d).length + 1) cR2),by go_num,by omega,by have h := S4.out.drop1.drop1; rw [HLS.out] at h; exact h⟩
      case measure => simp [intOf]; omega
    · skip
      go_simp
      obtain ⟨nnw,hnnw⟩ : ∃ n,n = w1.heap.size := ⟨_,rfl⟩
      obtain ⟨w5,hw5⟩ : ∃ v,v = w1.alloc (.cells #[(.int .i64 (s : Int))] 3) := ⟨_,rfl⟩
      rw [← hw5,← hnnw]
      have S5 : Hid (Sep w.heap.size w ([eBlk nnw 3 [(.int .i64 (s : Int))],eBlk bx 76 [.int .i64 (s : Int),.int .i64 ye,.int .i64 (d : Int)],eBlk gi 31 ((List.range N).map vs),eBlk w.heap.size 140 [.slice A1 al.length c1,.int .i64 (N : Int),.slice A2 mr.length c2,.slice (some ⟨b,off,none⟩) ed.length c3,.slice (some ⟨g0,0,none⟩) (N + 1) (N + 1)]] ++ rowsE N (fun s => predsOf (ed.take k) s) vs) w5) := by rw [hw5,hnnw]; exact S1.out.alloc 3 [(.int .i64 (s : Int))]
      skip
      clear hw5 hnnw
      refine hK.out _ _ ?_ (fun hHeld => ?_)
      · exact S5.out.left.pick [1] (by decide)
      clear hK K
      try simp only [sx]
      refine rdH 7 rfl fun K hK => ?_
      have il := (BlkAt.cell (S5.out.get 2 rfl) d).trans (rowsV_get hdN)
      rw [HVD.out] at il
      go_simp
      refine hK.out _ _ ?_ (fun hHeld => ?_)
      · exact S5.out.left.pick [1] (by decide)
      clear hK K
      try simp only [sx]
      refine rdH 11 rfl fun K hK => ?_
      refine step_pushS rfl (.tmp 35) (.tmp 38) 31 rfl S5.out (4 + d) (rowsE_get (A := [_,_,_,_]) hdN) Tryz.underlying31 _ 8 intInfo rfl (by decide) HVD.out.symm (s : Int) nnw rfl rfl (fun j u hj => (BlkAt.cell (S5.out.get 0 rfl) j).trans hj) (encI_one _) hpl (by decide) ?_
      intro AR2 cR2 w6 S6' _
      have S6 : Hid (Sep w.heap.size w ([eBlk nnw 3 [(.int .i64 (s : Int))],eBlk bx 76 [.int .i64 (s : Int),.int .i64 ye,.int .i64 (d : Int)],eBlk gi 31 ((List.range N).map vs),eBlk w.heap.size 140 [.slice A1 al.length c1,.int .i64 (N : Int),.slice A2 mr.length c2,.slice (some ⟨b,off,none⟩) ed.length c3,.slice (some ⟨g0,0,none⟩) (N + 1) (N + 1)]] ++ rowsE N (upd (fun s => predsOf (ed.take k) s) d (predsOf (ed.take k) d ++ [(s : Int)])) (upd vs d (.slice AR2 ((predsOf (ed.take k) d).length + 1) cR2))) w6) := (congrArg (fun es => Sep w.heap.size w es w6) (rowsE_set (A := [_,_,_,_]) hdN _ _)).mp S6'
      clear S6'
      refine hK.out _ _ ?_ (fun hHeld => ?_)
      · exact S6.out.left.pick [1] (by decide)
      clear hK K
      try simp only [sx]
      refine tkP 12 rfl hHeld ?_
      try simp only [sx]
      refine rdH 13 rfl fun K hK => ?_
      have sc := (BlkAt.cell (S6.out.get 2 rfl) d).trans (rowsV_get hdN)
      have sf := BlkAt.free (S6.out.get 2 rfl) d
      rw [HVD.out] at sc
      go_simp
      obtain ⟨w7,hw7⟩ : ∃ v,v = w6.setCell ⟨gi,d,none⟩ (.slice AR2 ((predsOf (ed.take k) d).length + 1) cR2) := ⟨_,rfl⟩
      rw [← hw7]
      have S7 : Hid (Sep w.heap.size w ([eBlk nnw 3 [(.int .i64 (s : Int))],eBlk bx 76 [.int .i64 (s : Int),.int .i64 ye,.int .i64 (d : Int)],eBlk gi 31 ((List.range N).map (upd vs d (.slice AR2 ((predsOf (ed.take k) d).length + 1) cR2))),eBlk w.heap.size 140 [.slice A1 al.length c1,.int .i64 (N : Int),.slice A2 mr.length c2,.slice (some ⟨b,off,none⟩) ed.length c3,.slice (some ⟨g0,0,none⟩) (N + 1) (N + 1)]] ++ rowsE N (upd (fun s => predsOf (ed.take k) s) d (predsOf (ed.take k) d ++ [(s : Int)])) (upd vs d (.slice AR2 ((predsOf (ed.take k) d).length + 1) cR2))) w7) := by
       have h := S6.out.set 2 rfl d (.slice AR2 ((predsOf (ed.take k) d).length + 1) cR2)
       rw [rowsV_set hdN] at h
       rw [hw7]
       exact h
      clear hw7 sc sf
      refine hK.out _ _ ?_ (fun hHeld => ?_)
      · exact S7.out.left.pick [1] (by decide)
      clear hK K
      try simp only [sx]
      refine wpAnyH_done (by kernel_rfl) ?_ _
      go_wp2_with fail
      go_roundw
      case rel => exact ⟨k + 1,upd vs d (.slice AR2 ((predsOf (ed.take k) d).length + 1) cR2),by go_num,by omega,by have h := S7.out.drop1.drop1; rw [HLS.out] at h; exact h⟩
      case measure => simp [intOf]; omega
  · obtain rfl : k = ed.length := by omega
    have S2 : Hid (Sep w.heap.size w ([eBlk gi 31 ((List.range N).map vs),eBlk w.heap.size 140 [.slice A1 al.length c1,.int .i64 (N : Int),.slice A2 mr.length c2,.slice A3 ed.length c3,.slice (some ⟨g0,0,none⟩) (N + 1) (N + 1)]] ++ rowsE N (fun s => predsOf ed s) vs) wr) := by
     have h := S.out
     rw [List.take_length] at h
     exact h
    clear S
    have b1 := qkC S2.out 1 rfl 1 rfl
    obtain ⟨go,hgo⟩ : ∃ g,g = wr.heap.size := ⟨_,rfl⟩
    go_upto_region 8 with fail
    rw [← hgo]
    refine wp_world (fun W2 => Sep w.heap.size w ([eBlk go 3 (mkI N (fun s => if s < 0 then (-1 : Int) else 0)),eBlk gi 31 ((List.range N).map vs),eBlk w.heap.size 140 [.slice A1 al.length c1,.int .i64 (N : Int),.slice A2 mr.length c2,.slice A3 ed.length c3,.slice (some ⟨g0,0,none⟩) (N + 1) (N + 1)]] ++ rowsE N (fun s => predsOf ed s) vs) W2) ?_ fun W2 S => ?_
    · have h := S2.out.alloc' 3 (List.replicate N (.int .i64 0)) (o := Obj.cells (Array.replicate N (.int .i64 0)) 3) (by simp) hgo
      rw [mkI_rep] at h
      exact h
    have S3 := Lib.hid S
    clear S S2 b1 hgo hmk2
    go_wp2_with fail
    go_loopw [48] (fun i wr => ∃ k : Nat,i = .int .i64 k ∧ k ≤ N ∧ Hid (Sep w.heap.size w ([eBlk go 3 (mkI N (fun s => if s < k then (-1 : Int) else 0)),eBlk gi 31 ((List.range N).map vs),eBlk w.heap.size 140 [.slice A1 al.length c1,.int .i64 (N : Int),.slice A2 mr.length c2,.slice A3 ed.length c3,.slice (some ⟨g0,0,none⟩) (N + 1) (N + 1)]] ++ rowsE N (fun s => predsOf ed s) vs) wr)) (fun i _ => N - (intOf i).toNat)
    case atStart => exact ⟨0,rfl,Nat.zero_le _,S3.out⟩
    case round =>
     clear S3
     obtain ⟨k,rfl,hk,S⟩ := hrel
     by_cases hlt : k < N
     · have oc := (BlkAt.cell (S.out.get 0 rfl) k).trans (mkI_get hlt)
       have of := BlkAt.free (S.out.get 0 rfl) k
       have S4 : Hid (Sep w.heap.size w ([eBlk go 3 (mkI N (fun s => if s < k + 1 then (-1 : Int) else 0)),eBlk gi 31 ((List.range N).map vs),eBlk w.heap.size 140 [.slice A1 al.length c1,.int .i64 (N : Int),.slice A2 mr.length c2,.slice A3 ed.length c3,.slice (some ⟨g0,0,none⟩) (N + 1) (N + 1)]] ++ rowsE N (fun s => predsOf ed s) vs) (wr.setCell ⟨go,k,none⟩ (.int .i64 (-1)))) := by
        have h := S.out.set 0 rfl k (.int .i64 (-1))
        rw [mkI_set] at h
        have e : mkI N (fun t => if t = k then (-1 : Int) else if t < k then (-1 : Int) else 0) = mkI N fun s => if s < k + 1 then (-1 : Int) else 0 := mkI_congr fun t _ => by
         by_cases e1 : t = k
         · rw [if_pos e1,if_pos (by omega)]
         · rw [if_neg e1]
           by_cases e2 : t < k
           · rw [if_pos e2,if_pos (by omega)]
           · rw [if_neg e2,if_neg (by omega)]
        rw [e] at h
        exact h
       clear S
       go_wp2_with fail
       go_roundw
       case rel => exact ⟨k + 1,by go_num,by omega,S4.out⟩
       case measure => simp [intOf]; omega
     · obtain rfl : k = N := by omega
       have S4 : Hid (Sep w.heap.size w ([eBlk go 3 (mkI k (fun s => if (s : Int) ∈ tg.take 0 then (0 : Int) else -1)),eBlk gi 31 ((List.range k).map vs),eBlk w.heap.size 140 [.slice A1 al.length c1,.int .i64 (k : Int),.slice A2 mr.length c2,.slice A3 ed.length c3,.slice (some ⟨g0,0,none⟩) (k + 1) (k + 1)]] ++ rowsE k (fun s => predsOf ed s) vs) wr) := by
        have h := S.out
        have e : mkI k (fun s => if s < k then (-1 : Int) else 0) = mkI k (fun s => if (s : Int) ∈ tg.take 0 then (0 : Int) else -1) := mkI_congr fun t ht => by rw [if_pos ht,if_neg (by simp)]
        rw [e] at h
        exact h
       clear S
       go_wp2_with fail
       refine (cloneO_c AT cT tg wr (HT.out.below IntE.stays S4.out.below) (by omega)).mono ?_
       rintro e w2 ⟨vq,rfl,O,hb⟩
       have S5' := (S4.out.newI O.out hb).asQ 0 rfl
       obtain ⟨AQ,cQ,hvq,hcq⟩ := S5'.formQ 0 rfl
       subst hvq
       have S5 : Hid (Sep w.heap.size w ([eQ tg (.slice AQ tg.length cQ),eBlk go 3 (mkI k (fun s => if (s : Int) ∈ tg.take 0 then (0 : Int) else -1)),eBlk gi 31 ((List.range k).map vs),eBlk w.heap.size 140 [.slice A1 al.length c1,.int .i64 (k : Int),.slice A2 mr.length c2,.slice A3 ed.length c3,.slice (some ⟨g0,0,none⟩) (k + 1) (k + 1)]] ++ rowsE k (fun s => predsOf ed s) vs) w2) := S5'
       clear S5' S4 O hb
       go_wp2_with fail
       go_loopw [59] (fun i wr => ∃ k' : Nat,i = .int .i64 k' ∧ k' ≤ tg.length ∧ Hid (Sep w.heap.size w ([eQ tg (.slice AQ tg.length cQ),eBlk go 3 (mkI k (fun s => if (s : Int) ∈ tg.take k' then (0 : Int) else -1)),eBlk gi 31 ((List.range k).map vs),eBlk w.heap.size 140 [.slice A1 al.length c1,.int .i64 (k : Int),.slice A2 mr.length c2,.slice A3 ed.length c3,.slice (some ⟨g0,0,none⟩) (k + 1) (k + 1)]] ++ rowsE k (fun s => predsOf ed s) vs) wr)) (fun i _ => tg.length - (intOf i).toNat)
       case atStart => exact ⟨0,rfl,Nat.zero_le _,S5.out⟩
       case round =>
        clear S5
        obtain ⟨q,rfl,hq,S⟩ := hrel
        by_cases hlt2 : q < tg.length
        · obtain ⟨b,off,x,hAe,hb,hx,y0⟩ := IntsAt.at (HT.out.below IntE.stays S.out.below) hlt2
          subst hAe
          obtain ⟨s,hs⟩ := Int.eq_ofNat_of_zero_le (HRG.out x (List.mem_of_getElem? hx)).1
          have hsN : s < k := by have := (HRG.out x (List.mem_of_getElem? hx)).2; omega
          have oc := (BlkAt.cell (S.out.get 1 rfl) s).trans (mkI_get hsN)
          have of := BlkAt.free (S.out.get 1 rfl) s
          have S6 : Hid (Sep w.heap.size w ([eQ tg (.slice AQ tg.length cQ),eBlk go 3 (mkI k (fun t => if (t : Int) ∈ tg.take (q + 1) then (0 : Int) else -1)),eBlk gi 31 ((List.range k).map vs),eBlk w.heap.size 140 [.slice A1 al.length c1,.int .i64 (k : Int),.slice A2 mr.length c2,.slice A3 ed.length c3,.slice (some ⟨g0,0,none⟩) (k + 1) (k + 1)]] ++ rowsE k (fun s => predsOf ed s) vs) (wr.setCell ⟨go,s,none⟩ (.int .i64 0))) := by
           have h := S.out.set 1 rfl s (.int .i64 0)
           rw [mkI_set] at h
           have e : mkI k (fun t => if t = s then (0 : Int) else if (t : Int) ∈ tg.take q then (0 : Int) else -1) = mkI k fun t => if (t : Int) ∈ tg.take (q + 1) then (0 : Int) else -1 := mkI_congr fun t _ => by
            rw [List.take_add_one,hx,Option.toList_some,hs]
            by_cases e1 : t = s
            · rw [if_pos e1,if_pos (by simp [e1])]
            · rw [if_neg e1]
              by_cases e2 : (t : Int) ∈ tg.take q
              · rw [if_pos e2,if_pos (List.mem_append_left _ e2)]
              · rw [if_neg e2,if_neg (by
                 intro g
                 rcases List.mem_append.1 g with g | g
                 · exact e2 g
                 · have := List.mem_singleton.1 g; omega)]
           rw [e] at h
           exact h
          rw [hs] at y0
          clear S hx hs
          go_wp2_with fail
          go_roundw
          case rel => exact ⟨q + 1,by go_num,by omega,S6.out⟩
          case measure => simp [intOf]; omega
        · obtain rfl : q = tg.length := by omega
          obtain ⟨C,hC⟩ : ∃ C,C = negC k (fun s => if (s : Int) ∈ tg then (0 : Int) else -1) + tg.length := ⟨_,rfl⟩
          have S6 : Hid (Sep w.heap.size w ([eQ (tg.drop 0) (.slice AQ (tg.drop 0).length cQ),eBlk go 3 (mkI k (fun s => if (s : Int) ∈ tg then (0 : Int) else -1)),eBlk gi 31 ((List.range k).map vs),eBlk w.heap.size 140 [.slice A1 al.length c1,.int .i64 (k : Int),.slice A2 mr.length c2,.slice A3 ed.length c3,.slice (some ⟨g0,0,none⟩) (k + 1) (k + 1)]] ++ rowsE k (fun s => predsOf ed s) vs) wr) := by
           have h := S.out
           rw [List.take_length] at h
           exact h
          have HC := Lib.hid hC
          clear S hC
          go_wp2_with fail
          go_loopw [10] (fun v10 wr => ∃ (fs : List Int) (h : Nat) (d : Nat → Int) (AQ' : Option Addr) (cQ' : Nat),v10 = .slice AQ' (fs.drop h).length cQ' ∧ h ≤ fs.length ∧ Hid (Bwd ⟨al,k,mr,ed⟩ k tg fs d h 0) ∧ Hid (negC k d + fs.length = C) ∧ Hid (Sep w.heap.size w ([eQ (fs.drop h) (.slice AQ' (fs.drop h).length cQ'),eBlk go 3 (mkI k d),eBlk gi 31 ((List.range k).map vs),eBlk w.heap.size 140 [.slice A1 al.length c1,.int .i64 (k : Int),.slice A2 mr.length c2,.slice A3 ed.length c3,.slice (some ⟨g0,0,none⟩) (k + 1) (k + 1)]] ++ rowsE k (fun s => predsOf ed s) vs) wr)) (fun v10 wr => 2 * wNeg wr go k + lenOf v10)
          case atStart => exact ⟨tg,0,_,AQ,cQ,rfl,Nat.zero_le _,B0.out,HC.out.symm,S6.out⟩
          case round =>
           clear S6 HC B0
           obtain ⟨fs,h,d,AQ',cQ',rfl,hh,B,HC,S⟩ := hrel
           have hfl : fs.length ≤ k := B.out.len
           by_cases hlt3 : h < fs.length
           · obtain ⟨s0,hs0⟩ : ∃ x,fs[h]? = some x := ⟨_,List.getElem?_eq_getElem hlt3⟩
             obtain ⟨s,hs⟩ := Int.eq_ofNat_of_zero_le (B.out.rg s0 (List.mem_of_getElem? hs0)).1
             have hsN : s < k := by have := (B.out.rg s0 (List.mem_of_getElem? hs0)).2; omega
             rw [hs] at hs0
             have FS := Lib.hid hs0
             have hdrop : fs.drop h = (s : Int) :: fs.drop (h + 1) := by
              rw [List.drop_eq_getElem_cons hlt3]
              have := List.getElem?_eq_getElem hlt3
              rw [FS.out] at this
              rw [← Option.some.inj this]
             have hdl : (fs.drop h).length = fs.length - h := List.length_drop ..
             have HN0 : Hid (2 * wNeg wr go k + (fs.length - h) = 2 * (C - fs.length) + (fs.length - h)) := by
              rw [Hid,wNeg_eq (S.out.get 1 rfl)]; have := HC.out; omega
             have hcap := OwnO.cap (S.out.get 0 rfl)
             rw [hdl] at S ⊢ hcap
             rw [hdrop] at S
             obtain ⟨gq,oq,y,hAe,hbq,hy,cq⟩ := IntsAt.at (l := (s : Int) :: fs.drop (h + 1)) (Sep.intsQ (c := cQ') (by have h' := S.out; rw [show fs.length - h = ((s : Int) :: fs.drop (h + 1)).length by simp; omega] at h'; exact h') 0 rfl) (k := 0) (by simp)
             simp at hy
             subst hy
             subst hAe
             rw [Nat.add_zero] at cq
             obtain ⟨AT2,hAT2,S1'⟩ := S.out.tailQ (enc := encI) (k := 1) (fun _ => rfl) 0 rfl
             have S1 : Hid (Sep w.heap.size w ([eQ (fs.drop (h + 1)) (.slice (some AT2) (fs.drop (h + 1)).length (cQ' - 1)),eBlk go 3 (mkI k d),eBlk gi 31 ((List.range k).map vs),eBlk w.heap.size 140 [.slice A1 al.length c1,.int .i64 (k : Int),.slice A2 mr.length c2,.slice A3 ed.length c3,.slice (some ⟨g0,0,none⟩) (k + 1) (k + 1)]] ++ rowsE k (fun s => predsOf ed s) vs) wr) := S1'
             have hlen1 : (fs.drop (h + 1)).length = fs.length - h - 1 := by rw [List.length_drop]; omega
             have HD1 := Lib.hid hlen1
             have hpos : 0 < fs.length - h := by omega
             clear S1' S hdl hdrop hbq
             go_upto_region 21 with fail
             go_cut [10] (fun v wx => v = .slice (some AT2) (fs.length - h - 1) (cQ' - 1) ∧ wx = wr)
             case first =>
              by_cases h1c : cQ' = 1
              · rw [if_pos h1c] at hAT2
                cases hAT2
                go_wp2_with fail
                go_meet
                exact ⟨by first | rfl | (simp; done) | (simp; omega),rfl⟩
              · rw [if_neg h1c] at hAT2
                cases hAT2
                go_wp2_with fail
                go_meet
                exact ⟨by first | rfl | (simp; done) | (simp; omega),rfl⟩
             case rest =>
              clear cq hAT2 hcap hpos hlen1
              obtain ⟨rfl,rfl⟩ := hcut
              obtain ⟨AR,cR,hvs⟩ := S1.out.form (4 + s) (rowsE_get (A := [_,_,_,_]) hsN)
              have ic := (BlkAt.cell (S1.out.get 2 rfl) s).trans (rowsV_get hsN)
              rw [hvs] at ic
              have HVS := Lib.hid hvs
              clear hvs hs0
              have hri : ∀ (E1 E2 E3 E4 : Ent),([E1,E2,E3,E4] ++ rowsE k (fun s => predsOf ed s) vs)[4 + s]? = some (eInts (predsOf ed s) (.slice AR (predsOf ed s).length cR)) := fun E1 E2 E3 E4 => (rowsE_get (A := [E1,E2,E3,E4]) hsN).trans (by rw [HVS.out])
              have HRI := Lib.hid hri
              have hpl := predsOf_len ed s
              clear hri
              go_wp2_with fail
              go_loopw [10,80] (fun v10 i wr2 => ∃ (q : Nat) (fs' : List Int) (d' : Nat → Int) (rest : List Int) (AQ2 : Option Addr) (cQ2 : Nat),v10 = .slice AQ2 rest.length cQ2 ∧ Hid (rest = fs'.drop (h + 1)) ∧ i = .int .i64 q ∧ q ≤ (predsOf ed s).length ∧ fs.length ≤ fs'.length ∧ Hid (fs'[h]? = some (s : Int)) ∧ Hid (Bwd ⟨al,k,mr,ed⟩ k tg fs' d' h q) ∧ Hid (negC k d' + fs'.length = C) ∧ Hid (Sep w.heap.size w ([eQ rest (.slice AQ2 rest.length cQ2),eBlk go 3 (mkI k d'),eBlk gi 31 ((List.range k).map vs),eBlk w.heap.size 140 [.slice A1 al.length c1,.int .i64 (k : Int),.slice A2 mr.length c2,.slice A3 ed.length c3,.slice (some ⟨g0,0,none⟩) (k + 1) (k + 1)]] ++ rowsE k (fun s => predsOf ed s) vs) wr2)) (fun _ i _ => (predsOf ed s).length - (intOf i).toNat)
              case atStart => exact ⟨0,fs,d,fs.drop (h + 1),some AT2,cQ' - 1,by rw [HD1.out],rfl,rfl,Nat.zero_le _,Nat.le_refl _,FS.out,B.out,HC.out,S1.out⟩
              case round =>
               clear S1 ic B HC
               obtain ⟨q,fs',d',rest,AQ2,cQ2,rfl,HRE,rfl,hq,hff,FS',B',HC',S⟩ := hrel
               have hfl' : fs'.length ≤ k := B'.out.len
               have hhl : h < fs'.length := (List.getElem?_eq_some_iff.1 FS'.out).1
               by_cases hlt4 : q < (predsOf ed s).length
               · obtain ⟨b,off,p,hAe,hb,hp,cp⟩ := IntsAt.at (Sep.ints S.out (4 + s) (HRI.out _ _ _ _)) hlt4
                 subst hAe
                 obtain ⟨x,hx,x1,x2⟩ := mem_predsOf.1 (List.mem_of_getElem? hp)
                 have hxr := edge_next HR.out hx
                 have hp0 : 0 ≤ p := by rw [← x2]; exact hxr.2.1
                 have hp1 : p < (k : Int) := by rw [← x2]; exact hxr.2.2.1
                 obtain ⟨pn,rfl⟩ := Int.eq_ofNat_of_zero_le hp0
                 have hpN : pn < k := by omega
                 have HP := Lib.hid hp
                 have oc := (BlkAt.cell (S.out.get 1 rfl) pn).trans (mkI_get hpN)
                 clear hx x1 x2 hxr hp hp0 hp1 hb
                 by_cases hneg : d' pn < 0
                 · have os := (BlkAt.cell (S.out.get 1 rfl) s).trans (mkI_get hsN)
                   have of := BlkAt.free (S.out.get 1 rfl) pn
                   have hds0 : 0 ≤ d' s := (B'.out.mem s hsN).2 (List.mem_of_getElem? FS'.out)
                   have hds1 : d' s ≤ h := by have := B'.out.le h _ FS'.out; simpa using this
                   have hwr : IntKind.i64.wrap (d' s + 1) = d' s + 1 := IntWalk.i64_in _ (by omega)
                   have hm : ¬ (pn : Int) ∈ fs' := fun g => by have := (B'.out.mem pn hpN).2 g; omega
                   have B2 : Hid (Bwd ⟨al,k,mr,ed⟩ k tg (fs' ++ [(pn : Int)]) (fun t => if t = pn then d' s + 1 else d' t) h (q + 1)) := B'.out.new HR.out rfl FS'.out HP.out hm
                   have HC2 : Hid (negC k (fun t => if t = pn then d' s + 1 else d' t) + (fs' ++ [(pn : Int)]).length = C) := by
                    have h1 := negC_put (d := d') (p := pn) (x := d' s + 1) hneg (by omega) k
                    rw [if_pos hpN] at h1
                    have h2 := HC'.out
                    unfold Hid
                    rw [List.length_append,List.length_singleton]
                    omega
                   have S2 : Hid (Sep w.heap.size w ([eQ rest (.slice AQ2 rest.length cQ2),eBlk go 3 (mkI k fun t => if t = pn then d' s + 1 else d' t),eBlk gi 31 ((List.range k).map vs),eBlk w.heap.size 140 [.slice A1 al.length c1,.int .i64 (k : Int),.slice A2 mr.length c2,.slice A3 ed.length c3,.slice (some ⟨g0,0,none⟩) (k + 1) (k + 1)]] ++ rowsE k (fun s => predsOf ed s) vs) (wr.setCell ⟨go,pn,none⟩ (.int .i64 (d' s + 1)))) := by
                    have h := S.out.set 1 rfl pn (.int .i64 (d' s + 1))
                    rw [mkI_set] at h
                    exact h
                   have hdr : rest ++ [(pn : Int)] = (fs' ++ [(pn : Int)]).drop (h + 1) := by rw [List.drop_append_of_le_length (by omega),HRE.out]
                   have HDR := Lib.hid hdr
                   have hll : rest.length ≤ 1048576 := by rw [HRE.out,List.length_drop]; omega
                   clear hdr hm hds0 hds1 S B' HC'
                   go_wp2_with (at_builtin; refine wpList_pushQ (enc := encI) (k := 1) (fun _ => rfl) rfl _ _ 31 rfl (S2.out.alloc 3 [.int .i64 (pn : Int)]) 1 rfl Tryz.underlying31 _ 8 intInfo rfl (by decide) rfl (pn : Int) _ rfl (one_cell _ _ [_] _ (by simp)) (encI_one _) hll (by decide) ?_)
                   intro A3' c3' w3 S3
                   have S4 : Hid (Sep w.heap.size w ([eQ (rest ++ [(pn : Int)]) (.slice A3' (rest.length + 1) c3'),eBlk go 3 (mkI k fun t => if t = pn then d' s + 1 else d' t),eBlk gi 31 ((List.range k).map vs),eBlk w.heap.size 140 [.slice A1 al.length c1,.int .i64 (k : Int),.slice A2 mr.length c2,.slice A3 ed.length c3,.slice (some ⟨g0,0,none⟩) (k + 1) (k + 1)]] ++ rowsE k (fun s => predsOf ed s) vs) w3) := S3.drop1
                   clear S3 S2 oc os of
                   go_wp2_with fail
                   go_roundw
                   case rel => exact ⟨q + 1,fs' ++ [(pn : Int)],_,rest ++ [(pn : Int)],A3',c3',by rw [List.length_append]; rfl,HDR.out,by go_num,by omega,by rw [List.length_append]; omega,(List.getElem?_append_left hhl).trans FS'.out,B2.out,HC2.out,by rw [List.length_append]; exact S4.out⟩
                   case measure => simp [intOf]; omega
                 · have hnn : 0 ≤ d' pn := by omega
                   have B2 : Hid (Bwd ⟨al,k,mr,ed⟩ k tg fs' d' h (q + 1)) := B'.out.old FS'.out HP.out ((B'.out.mem pn hpN).1 hnn)
                   have hdf : decide (d' pn < 0) = false := by simp; omega
                   clear B'
                   go_wp2_with fail
                   go_roundw
                   case rel => exact ⟨q + 1,fs',d',rest,AQ2,cQ2,rfl,HRE.out,by go_num,by omega,hff,FS'.out,B2.out,HC'.out,S.out⟩
                   case measure => simp [intOf]; omega
               · obtain rfl : q = (predsOf ed s).length := by omega
                 have B2 : Hid (Bwd ⟨al,k,mr,ed⟩ k tg fs' d' (h + 1) 0) := B'.out.next FS'.out (Nat.le_refl _)
                 have HW : Hid (wNeg wr go k = negC k d') := wNeg_eq (S.out.get 1 rfl)
                 clear B'
                 go_wp2_with fail
                 go_roundw
                 case rel => exact ⟨fs',h + 1,d',AQ2,cQ2,by rw [← HRE.out],hhl,B2.out,HC'.out,by rw [← HRE.out]; exact S.out⟩
                 case measure =>
                  have h1 := HN0.out
                  have h2 := HW.out
                  have h3 := HC'.out
                  have h4 : rest.length = fs'.length - (h + 1) := by rw [HRE.out]; exact List.length_drop ..
                  simp only [lenOf]
                  omega
           · obtain rfl : h = fs.length := by omega
             have HF : Hid (∀ s : Nat,s < k → (0 ≤ d s ↔ ∃ u,runV ed s u ∈ tg)) := fun s hs => B.out.fin HR.out rfl HNN.out hs
             have hdl : (fs.drop fs.length).length = 0 := by simp
             rw [hdl] at S ⊢
             clear hdl
             go_wp2_with fail
             go_ret
             exact ⟨go,d,rfl,S.out.left.pick [1] (by decide),HF.out⟩
def wordsV (al : List Int) : Nat → List (List Int)
 | 0 => [[]]
 | n + 1 => (wordsV al n).flatMap fun w => al.map fun e => w ++ [e]
def sumTo (f : Int → Nat) (t : Int) (l : List Ed) : Nat := (l.map fun x => if x.dst = t then f x.src else 0).sum
def ledV (a : Au) (n : Nat) (s : Int) : Nat := (wordsV a.al n).countP fun w => decide (rn a w = s)
def cntL (a : Au) (P : Int → Bool) (n : Nat) : Nat := (wordsV a.al n).countP fun w => P (rn a w)
def sumB (f : Nat → Nat) (P : Nat → Bool) (N : Nat) : Nat := ((List.range N).map fun s => if P s then f s else 0).sum
theorem incr_nodup {l : List Int} (h : incr l) : l.Nodup := List.nodup_iff_pairwise_ne.2 (List.pairwise_iff_getElem.2 fun i j hi hj hij => by
 have := h i j _ _ hij (List.getElem?_eq_getElem hi) (List.getElem?_eq_getElem hj)
 omega)
set_option maxHeartbeats 400000 in
theorem checkSetR_c (A : Option Addr) (c : Nat) (l : List Int) (n : Int) (w : World) (h : IntsAt w A l) (hl : l.length ≤ maxLen) :
 Calls Tryz.prog 73 #[.slice A l.length c,.int .i64 n] w (Errs (setOk l n l.length) w) := by
 unfold maxLen at hl
 go_enter Tryz.func73,Tryz.ntmps73
 go_wp2
 go_loop [5,6,9] (fun a b i => ∃ k : Nat,k ≤ l.length ∧ i = .int .i64 k ∧ Hid (setOk l n k)) (fun _ _ i => l.length - (intOf i).toNat)
 case atStart => exact ⟨0,by omega,rfl,fun i x h => absurd h (by omega)⟩
 case round =>
  obtain ⟨k,hk,rfl,hrel⟩ := hrel
  by_cases hlt : k < l.length
  · obtain ⟨b,off,x,rfl,_,hx,hcx⟩ := IntsAt.at h hlt
    by_cases hk0 : k = 0
    · subst hk0
      rw [Nat.add_zero] at hcx
      go_wp2
      any_goals (go_ret; exact Errs.no (setOk.not1 hx hlt (by omega)) (by decide) rfl)
      go_round
      case rel => exact ⟨1,by omega,by go_num,hrel.out.step hx (by omega) (by omega) (fun y h => absurd h (by omega))⟩
      case measure => simp [intOf]; omega
    · obtain ⟨y,hy,hcy⟩ := IntsAt.more h (k := k - 1) (by omega)
      go_wp2
      any_goals (go_ret; first | exact Errs.no (setOk.not1 hx hlt (by omega)) (by decide) rfl | exact Errs.no (setOk.not2 hx hlt (by omega) hy (by omega)) (by decide) rfl)
      go_round
      case rel => exact ⟨k+1,by omega,by go_num,hrel.out.step hx (by omega) (by omega) (fun z h hz => by rw [hy] at hz; cases hz; omega)⟩
      case measure => simp [intOf]; omega
  · obtain rfl : k = l.length := by omega
    go_wp2
    go_ret
    exact Errs.yes hrel.out rfl

set_option maxHeartbeats 1000000 in
theorem checkStates_c (a : Au) (p : AuP) (A : Option Addr) (c : Nat) (l : List Int) (w : World) (h : IntsAt w A l) (hl : l.length ≤ maxLen) :
 Calls Tryz.prog 104 #[a.val p,.slice A l.length c] w (ErrsB (setOk l a.n l.length) w) := by
 obtain ⟨al,n,mr,ed⟩ := a
 obtain ⟨A1,c1,A2,c2,A3,c3⟩ := p
 dsimp only [Au.val]
 have H := Lib.hid h
 clear h
 go_enter Tryz.func104,Tryz.ntmps104
 go_wp2_with fail
 refine calls_world (fun W => Below w.heap.size w W) (Below.new w _) fun W hb => ?_
 refine (checkSetR_c A c l n W (H.out.below IntE.stays hb) hl).mono ?_
 rintro e w' ⟨r,rfl,hr,rfl⟩
 go_wp2_with fail
 go_ret
 exact ⟨r,rfl,hr,hb⟩
set_option maxHeartbeats 1000000 in
theorem flags_c (a : Au) (p : AuP) (A : Option Addr) (c : Nat) (l : List Int) (w : World) (hr : ∀ x,x ∈ l → 0 ≤ x ∧ x < a.n) (h0 : 0 ≤ a.n) (hn : a.n ≤ 4096) (hA : IntsAt w A l) (hml : l.length ≤ 140737488355328) :
 Calls Tryz.prog 105 #[a.val p,.slice A l.length c] w (GivesB a.n.toNat (fun s => decide ((s : Int) ∈ l)) w) := by
 obtain ⟨al,n,mr,ed⟩ := a
 obtain ⟨A1,c1,A2,c2,A3,c3⟩ := p
 obtain ⟨N,rfl⟩ := Int.eq_ofNat_of_zero_le h0
 have HR := Lib.hid hr
 have HA := Lib.hid hA
 dsimp only [Au.val] at HR hn h0 ⊢
 have hmk := make_run (P := Tryz.prog) 133 4 (.bool false) 1 Tryz.underlying133 boolInfo rfl N (by omega) (by omega)
 clear hr hA h0
 rw [Int.toNat_natCast]
 go_enter Tryz.func105,Tryz.ntmps105
 go_wp2_with fail
 refine wp_world (fun W => Sep w.heap.size w [eBlk (w.heap.size + 1) 4 (mkB N fun s => decide ((s : Int) ∈ l.take 0))] W) ?_ fun W S0 => ?_
 · have e : (fun s : Nat => decide ((s : Int) ∈ l.take 0)) = fun _ => false := by funext s; simp
   rw [e,← mkB_rep]
   exact (((Sep.here w).alloc 34 [_,_,_,_]).alloc' _ _ rfl (by simp)).first
 clear hmk
 go_loopw [13] (fun i wr => ∃ k : Nat,i = .int .i64 k ∧ k ≤ l.length ∧ Hid (Sep w.heap.size w [eBlk (w.heap.size + 1) 4 (mkB N fun s => decide ((s : Int) ∈ l.take k))] wr)) (fun i _ => l.length - (intOf i).toNat)
 case atStart => exact ⟨0,rfl,Nat.zero_le _,S0⟩
 case round =>
  clear S0
  obtain ⟨k,rfl,hk,S⟩ := hrel
  by_cases hlt : k < l.length
  · obtain ⟨b,off,x,hAe,hb,hx,c0⟩ := IntsAt.at (HA.out.below IntE.stays S.out.below) hlt
    have hxr := HR.out x (List.mem_of_getElem? hx)
    obtain ⟨m,rfl⟩ := Int.eq_ofNat_of_zero_le hxr.1
    have c1 : wr.cell? ⟨w.heap.size + 1,m,none⟩ = some (.bool _) := (BlkAt.cell (S.out.get 0 rfl) m).trans (mkB_get (by omega))
    have f1 : wr.frozen? ⟨w.heap.size + 1,m,none⟩ = false := BlkAt.free (S.out.get 0 rfl) m
    have S2 : Hid (Sep w.heap.size w [eBlk (w.heap.size + 1) 4 (mkB N fun s => decide ((s : Int) ∈ l.take (k + 1)))] (wr.setCell ⟨w.heap.size + 1,m,none⟩ (.bool true))) := by
     have h := S.out.set 0 rfl m (.bool true)
     rw [mkB_set] at h
     have e : (mkB N fun t => decide (t = m) || decide ((t : Int) ∈ l.take k)) = mkB N fun s => decide ((s : Int) ∈ l.take (k + 1)) := mkB_congr fun s _ => by
      rcases take_mem hx s with g | g
      · rw [← g,Int.toNat_natCast]
      · omega
     rw [e] at h
     exact h
    rw [hAe]
    clear hx S
    go_wp2_with fail
    go_roundw
    case rel => exact ⟨k + 1,by go_num,by omega,S2.out⟩
    case measure => simp [intOf]; omega
  · obtain rfl : k = l.length := by omega
    have S3 : Hid (Sep w.heap.size w [eBlk (w.heap.size + 1) 4 (mkB N fun s => decide ((s : Int) ∈ l))] wr) := by have h := S.out; rw [List.take_length] at h; exact h
    go_wp2_with fail
    go_ret
    exact ⟨_,rfl,S3.out⟩

def coV (d : Nat → Int) (k : Nat) : List Int := ((List.range k).filter fun s => decide (0 ≤ d s)).map fun s : Nat => (s : Int)
theorem coV_yes {d : Nat → Int} {k : Nat} (h : 0 ≤ d k) : coV d (k + 1) = coV d k ++ [(k : Int)] := by simp [coV,List.range_succ,List.filter_append,h]
theorem coV_no {d : Nat → Int} {k : Nat} (h : ¬ 0 ≤ d k) : coV d (k + 1) = coV d k := by simp [coV,List.range_succ,List.filter_append,h]
theorem coV_len (d : Nat → Int) (k : Nat) : (coV d k).length ≤ k := by
 have := List.length_filter_le (fun s => decide (0 ≤ d s)) (List.range k)
 simpa [coV] using this
def GivesKp (a : Au) (w : World) (e : Ending) (w' : World) : Prop := ∃ (d : Nat → Int) (A : Option Addr) (c : Nat),e = .returned (.tuple #[.slice A (coV d a.n.toNat).length c,.int .i64 0]) ∧ Hid (Sep w.heap.size w [eInts (coV d a.n.toNat) (.slice A (coV d a.n.toNat).length c)] w') ∧ Hid (∀ s : Nat,s < a.n.toNat → (0 ≤ d s ↔ ∃ u,runV a.ed s u ∈ a.mr))
set_option maxHeartbeats 4000000 in
theorem coreachable_c (a : Au) (p : AuP) (w : World) (hr : a.Right) (hA : Au.At w a p) :
 Calls Tryz.prog 81 #[a.val p] w (GivesKp a w) := by
 have h0 := hr.n0
 have hn := hr.n1
 have HR := Lib.hid hr
 have HA := Lib.hid hA
 have HND : Hid (a.mr.Nodup) := incr_nodup hr.mr.incr
 have HRG : Hid (∀ v,v ∈ a.mr → 0 ≤ v ∧ v < a.n) := fun v hv => hr.mem hv
 obtain ⟨al,n,mr,ed⟩ := a
 obtain ⟨A1,c1,A2,c2,A3,c3⟩ := p
 obtain ⟨N,rfl⟩ := Int.eq_ofNat_of_zero_le h0
 dsimp only [Au.val] at HND HRG hn ⊢
 clear hr hA h0
 go_enter Tryz.func81,Tryz.ntmps81
 go_wp2_with fail
 refine calls_world (fun W => Sep w.heap.size w [eBlk w.heap.size 34 [.slice A1 al.length c1,.int .i64 (N : Int),.slice A2 mr.length c2,.slice A3 ed.length c3]] W) ?_ fun W S => ?_
 · exact (Sep.here w).alloc' _ [_,_,_,_] rfl rfl
 refine (Check_c ⟨al,N,mr,ed⟩ ⟨A1,c1,A2,c2,A3,c3⟩ W (HA.out.below S.below)).mono ?_
 intro e w1 hs
 rcases hs.two with ⟨r,rfl,hr,_,HN,_⟩ | ⟨rfl,_,hb⟩
 · exact absurd HR.out HN.out
 clear hs
 have S0 := Lib.hid (S.next hb)
 clear S hb
 go_wp2_with fail
 refine wp_world (fun W => Sep w.heap.size w [eBlk w.heap.size 34 [.slice A1 al.length c1,.int .i64 (N : Int),.slice A2 mr.length c2,.slice A3 ed.length c3]] W) S0.out fun W2 S => ?_
 have S0 := Lib.hid S
 clear S
 have S1 := Lib.hid S0.out.drew
 refine wp_region_held_drew (S := (fun V => Sep w.heap.size w [eBlk w.heap.size 34 [.slice A1 al.length c1,.int .i64 (N : Int),.slice A2 mr.length c2,.slice A3 ed.length c3]] V)) (by kernel_rfl) ?_ (fun hHeld => ?_)
 · exact S1.out.pick [0] (by decide)
 generalize hwz : W2.drew = w1 at *
 clear hwz
 refine tkH 0 rfl (v := ?_) (by kernel_rfl) ?_ hHeld ?_
 rotate_left
 · intro V hSw
   have b0 := qkC hSw 0 rfl 0 rfl
   have b1 := qkC hSw 0 rfl 1 rfl
   have b2 := qkC hSw 0 rfl 2 rfl
   have b3 := qkC hSw 0 rfl 3 rfl
   clear hSw
   first | (go_simp; done) | (go_simp; with_reducible rfl)
 try simp only [sx]
 refine tkP 2 rfl hHeld ?_
 try simp only [sx]
 refine tkH 3 rfl (v := ?_) (by kernel_rfl) ?_ hHeld ?_
 rotate_left
 · intro V hSw
   have b0 := qkC hSw 0 rfl 0 rfl
   have b1 := qkC hSw 0 rfl 1 rfl
   have b2 := qkC hSw 0 rfl 2 rfl
   have b3 := qkC hSw 0 rfl 3 rfl
   clear hSw
   first | (go_simp; done) | (go_simp; with_reducible rfl)
 try simp only [sx]
 refine tkP 6 rfl hHeld ?_
 try simp only [sx]
 refine rdH 1 rfl fun K hK => ?_
 go_simp
 refine (newGraph_c ⟨al,N,mr,ed⟩ ⟨A1,c1,A2,c2,A3,c3⟩ w1 HR.out (HA.out.below S1.out.below)).mono ?_
 rintro e w2 ⟨g0,rfl,T⟩
 have S2 := qkN S1.out T.out
 clear T
 refine hK.out _ _ ?_ (fun hHeld => ?_)
 · exact S2.out.pick [1] (by decide)
 clear hK K
 try simp only [sx]
 refine rdH 4 rfl fun K hK => ?_
 go_simp
 refine (backward_c ⟨al,N,mr,ed⟩ ⟨A1,c1,A2,c2,A3,c3⟩ g0 A2 c2 mr w2 HR.out (HA.out.below S2.out.below) (HA.out.below S2.out.below).mr HND.out HRG.out).mono ?_
 rintro e w3 ⟨gd,d,rfl,T,HD⟩
 have S3 := qkN S2.out T.out
 clear T
 refine hK.out _ _ ?_ (fun hHeld => ?_)
 · exact S3.out.pick [2] (by decide)
 clear hK K
 try simp only [sx]
 refine tkP 5 rfl hHeld ?_
 try simp only [sx]
 refine wpAnyH_done (by kernel_rfl) ?_ _
 have SL : Hid (Sep w.heap.size w [eBlk gd 3 (mkI N d)] w3) := S3.out.pick [0] (by decide)
 dsimp only [Int.toNat_natCast]
 have hwz : (N : Int).toNat = N := rfl
 go_wp2_with fail
 go_loopw [5,19] (fun v5 i wr => ∃ (k : Nat) (A' : Option Addr) (c' : Nat),v5 = .slice A' (coV d k).length c' ∧ i = .int .i64 k ∧ k ≤ N ∧ Hid (Sep w.heap.size w [eInts (coV d k) (.slice A' (coV d k).length c'),eBlk gd 3 (mkI N d)] wr)) (fun _ i _ => N - (intOf i).toNat)
 case atStart => exact ⟨0,none,0,rfl,rfl,Nat.zero_le _,SL.out.nilOwn encI 1 3⟩
 case round =>
  clear SL
  obtain ⟨k,A',c',rfl,rfl,hk,S⟩ := hrel
  by_cases hlt : k < N
  · have oc := (BlkAt.cell (S.out.get 1 rfl) k).trans (mkI_get hlt)
    by_cases hge : 0 ≤ d k
    · have hll := coV_len d k
      have HV : Hid (coV d (k + 1) = coV d k ++ [(k : Int)]) := coV_yes hge
      go_wp2_with (at_builtin; refine wpList_pushS (enc := encI) (k := 1) rfl _ _ 31 rfl (S.out.alloc 3 [.int .i64 (k : Int)]) 1 rfl Tryz.underlying31 _ 8 intInfo rfl (by decide) rfl (k : Int) _ rfl rfl (one_cell _ _ [_] _ rfl) (encI_one _) (by omega) (by decide) ?_)
      intro A2' c2' w3 S3 _
      have S4 : Hid (Sep w.heap.size w [eInts (coV d k ++ [(k : Int)]) (.slice A2' ((coV d k).length + 1) c2'),eBlk gd 3 (mkI N d)] w3) := S3.drop1
      clear S3 S oc
      go_wp2_with fail
      go_roundw
      case rel => exact ⟨k + 1,A2',c2',by rw [HV.out,List.length_append]; rfl,by go_num,by omega,by rw [HV.out,List.length_append]; exact S4.out⟩
      case measure => simp [intOf]; omega
    · have HV : Hid (coV d (k + 1) = coV d k) := coV_no hge
      have hdf : decide (0 ≤ d k) = false := by simpa using hge
      go_wp2_with fail
      go_roundw
      case rel => exact ⟨k + 1,A',c',by rw [HV.out],by go_num,by omega,by rw [HV.out]; exact S.out⟩
      case measure => simp [intOf]; omega
  · obtain rfl : k = N := by omega
    go_wp2_with fail
    go_ret2
    exact ⟨d,A',c',rfl,S.out.pick [0] (by decide),HD.out⟩
def eObj (g : Nat) (o : Obj) : Ent where
 foot := [g]
 ok w := w.heap[g]? = some o
 lt w h k hk := by simp at hk; subst hk; exact (Array.getElem?_eq_some_iff.1 h).1
 turn w w' h hg := (hg g (by simp)).trans h
theorem Off.put (w : World) (g : Nat) (o : Obj) : Off [g] w (w.putObj g o) :=
 ⟨rfl,rfl,rfl,by simp,fun k _ hk => World.putObj_heap_other (fun e => hk (by simp [e]))⟩
theorem Sep.put {n : Nat} {w0 w : World} {es : List Ent} (S : Sep n w0 es w) (i : Nat) {g : Nat} {o : Obj} (hi : es[i]? = some (eObj g o)) (o' : Obj) : Sep n w0 (es.set i (eObj g o')) (w.putObj g o') :=
 S.chg i hi _ (Off.put w g o') (World.putObj_heap_same ((eObj g o).lt w (S.get i hi) g (by simp [eObj]))) (fun g hg => .inl hg)
theorem Sep.obj {n : Nat} {w0 w : World} {es : List Ent} (S : Sep n w0 es w) (o : Obj) : Sep n w0 (eObj w.heap.size o :: es) (w.alloc o) :=
 S.new1 (Below.new w o) (eObj w.heap.size o) (World.alloc_heap_new w o) (by simp [eObj])
theorem mid_get {α : Type} (l r : List α) (x : α) : (l ++ x :: r)[l.length]? = some x := by simp
theorem mid_set {α : Type} (l r : List α) (x y : α) : (l ++ x :: r).set l.length y = l ++ y :: r := by simp

def sepPost {α : Type} (n0 : Nat) (w0 : World) (T : α → List Ent) (eL eD : Ent) (R : Nat → List Ent → Prop) (Rx : Code → List Ent → Prop) (k : Nat) (x : α) : Exit → Act → World → Prop
 | .normal,_,W => ∃ es,R (k + 1) es ∧ Sep n0 w0 (T x ++ eL :: eD :: es) W
 | .ret,_,W => ∃ es,Rx .ret es ∧ Sep n0 w0 (T x ++ eL :: eD :: es) W
 | .exit id,_,W => ∃ es,Rx (.exit id) es ∧ Sep n0 w0 (T x ++ eL :: eD :: es) W
 | .goto t,_,W => ∃ es,Rx (.goto t) es ∧ Sep n0 w0 (T x ++ eL :: eD :: es) W
 | .panic _,_,_ => False
 | .outgrown,_,_ => False
def IterS {α : Type} (P : Program) (m : Nat) (gf : Nat) (lb : Array Value) (encs : α → Array Value) (T : α → List Ent) (X : Nat → α → Prop) (Dn Bd : Nat → Prop) (need : List Ent) (n0 : Nat) (w0 w : World) : Prop :=
 ∀ (l : Nat) (R : Nat → List Ent → Prop) (Rx : List Ent → Prop) (es : List Ent) (W : World),Below w.heap.size w W → Sep n0 w0 es W → R 0 es → (∀ k es,R k es → Bd k ∧ ∀ e,e ∈ need → e ∈ es) →
  (∀ (k : Nat) (x : α) (es1 : List Ent) (W1 : World),X k x → R k es1 → Sep n0 w0 (T x ++ es1) W1 → YieldAt Fence.wide (m - 1) P l (encs x) W1 fun e W' =>
    (e = .returned (.bool true) ∧ ∃ es',R (k + 1) es' ∧ Sep n0 w0 (T x ++ es') W') ∨ (e = .returned (.bool false) ∧ ∃ es',Rx es' ∧ Sep n0 w0 (T x ++ es') W')) →
  CallsIn Fence.wide m P gf (#[.func (.yield l) #[] #[]] ++ lb) W fun e W' => (∃ v,e = .returned v) ∧ ((∃ k es',Dn k ∧ R k es' ∧ Sep n0 w0 es' W') ∨ (∃ es',Rx es' ∧ Sep n0 w0 es' W'))

theorem wp_rangeFunc_sep {P : Program} {α : Type} {g : Operand} {ps : Array Tmp} {assign body : Code} {Q : Exit → Act → World → Prop} {a : Act} {w : World} {n0 : Nat} {w0 : World} {es : List Ent}
 {gf : Nat} {lb : Array Value} (hg : a.eval g = .func (.func gf) #[] lb) (eg : ∀ args w,(callFunc gf args).run P w = .ok (.enter gf args) w)
 {encs : α → Array Value} {T : α → List Ent} {X : Nat → α → Prop} {Dn Bd : Nat → Prop} {need : List Ent} (m : Nat) (hseq : IterS P (m + 1) gf lb encs T X Dn Bd need n0 w0 w) (hps : ∀ x,(encs x).size = ps.size)
 (R : Nat → List Ent → Prop) (Rx : Code → List Ent → Prop) (S : Sep n0 w0 es w) (h0 : R 0 es) (hbd : ∀ k es,R k es → Bd k ∧ ∀ e,e ∈ need → e ∈ es) (Ax : Nat → α → List Ent → Act → Prop)
 (hassign : ∀ (l : Nat) (eL eD : Ent) (k : Nat) (x : α) (es1 : List Ent) (W : World) (K : Act → World → Prop),X k x → R k es1 → Sep n0 w0 (T x ++ eL :: eD :: es1) W →
   (∀ (a' : Act) (es2 : List Ent) (W' : World),Ax k x es2 a' → Sep n0 w0 (T x ++ eL :: eD :: es2) W' → K a' W') →
   assign.wpIn (Fence.wide.inRound l) m P (Exit.then K (fun _ _ _ => False)) { tmps := (ps.zip (encs x)).foldl (fun t (p,v) => t.setIfInBounds p v) a.tmps,defers := [] } W)
 (hbody : ∀ (l : Nat) (eL eD : Ent) (k : Nat) (x : α) (es2 : List Ent) (a' : Act) (W : World),X k x → Ax k x es2 a' → Sep n0 w0 (T x ++ eL :: eD :: es2) W →
   body.wpIn (Fence.wide.inRound l) m P (sepPost n0 w0 T eL eD R Rx k x) a' W)
 (hdone : ∀ (D k : Nat) (es1 : List Ent) (W : World),Dn k → R k es1 → Sep n0 w0 (eObj D (.deferred (some [])) :: es1) W → Q .normal { a with defers := { target := .collected D,args := #[] } :: a.defers } W)
 (hstop : ∀ (D : Nat) (c : Code) (es1 : List Ent) (W : World),Rx c es1 → Sep n0 w0 (eObj D (.deferred (some [])) :: es1) W → c.wp P Q { a with defers := { target := .collected D,args := #[] } :: a.defers } W) :
 (Code.rangeFunc g ps assign body).wp P Q a w := by
 rw [← wpIn_wide (n := m + 2)]
 refine wpIn_rangeFunc ?_
 intro fn hfn
 obtain ⟨rec,hrec⟩ : ∃ rec : LoopState → Option Code → Loop,rec = fun st pe => { state := st,pending := pe,fn,tmps := a.tmps,params := ps,assign,body,defers := w.heap.size } := ⟨_,rfl⟩
 obtain ⟨W1,hW1⟩ : ∃ W1,(w.alloc (.deferred (some []))).alloc (.loop (rec .ready none)) = W1 := ⟨_,rfl⟩
 have S1 : Sep n0 w0 (eObj (w.heap.size + 1) (.loop (rec .ready none)) :: eObj w.heap.size (.deferred (some [])) :: es) W1 := by
  rw [← hW1]
  have h := (S.obj (.deferred (some []))).obj (.loop (rec .ready none))
  rw [World.size_alloc] at h
  exact h
 have hb1 : Below w.heap.size w W1 := by
  rw [← hW1]; exact ((Below.refl _ w).alloc (Nat.le_refl _) _).alloc (by simp) _
 refine ⟨w.heap.size + 1,[{ target := .collected w.heap.size,args := #[] }],W1,{ target := .fn (.func gf) lb,args := #[.func (.yield (w.heap.size + 1)) #[] #[]] },W1,gf,
  #[.func (.yield (w.heap.size + 1)) #[] #[]] ++ lb,W1,?_,?_,?_,?_,fun _ => by omega,?_⟩
 · rw [← hW1,hrec]; exact run_enterLoop_outer _ _ _ _ _
 · simp only [resolve,hg]
   simp [go_sem]
 · intro f' _; trivial
 · simp [invoke,go_sem,eg]
 · refine (hseq (w.heap.size + 1)
    (fun k es' => ∃ es1,es' = eObj (w.heap.size + 1) (.loop (rec .ready none)) :: eObj w.heap.size (.deferred (some [])) :: es1 ∧ R k es1)
    (fun es' => ∃ c es1,es' = eObj (w.heap.size + 1) (.loop (rec .done (some c))) :: eObj w.heap.size (.deferred (some [])) :: es1 ∧ Rx c es1)
    _ W1 hb1 S1 ⟨es,rfl,h0⟩ (fun k es' ⟨es1,he,hr⟩ => ⟨(hbd k es1 hr).1,fun e hm => by rw [he]; exact List.mem_cons_of_mem _ (List.mem_cons_of_mem _ ((hbd k es1 hr).2 e hm))⟩) ?_).mono ?_
   · rintro k x es' W hx ⟨es1,rfl,hr⟩ SW
     have hl : W.heap[w.heap.size + 1]? = some (.loop (rec .ready none)) := SW.get (T x).length (mid_get _ _ _)
     have hy := run_yield (P := P) (args := encs x) hl (by rw [hrec]; exact hps x)
     rw [hrec] at hy
     refine ⟨fn,_,assign,body,hy,roundIn_of_wpIn hfn (hassign _ _ _ k x es1 W _ hx hr SW fun a' es2 W' hax SW' => ?_)⟩
     have hl' : W'.heap[w.heap.size + 1]? = some (.loop (rec .ready none)) := SW'.get (T x).length (mid_get _ _ _)
     refine ⟨_,run_beginRound hl' (by rw [hrec]),?_⟩
     have SB := SW'.put (T x).length (mid_get _ _ _) (.loop { rec .ready none with state := .busy })
     rw [mid_set] at SB
     refine wpIn_mono (hbody (w.heap.size + 1) _ _ k x es2 a' _ hx hax SB) ?_
     have fin : ∀ (jump : Option Code) (W3 : World) (es3 : List Ent),Sep n0 w0 (T x ++ eObj (w.heap.size + 1) (.loop { rec .ready none with state := .busy }) :: eObj w.heap.size (.deferred (some [])) :: es3) W3 →
      (Instr.endRound (w.heap.size + 1) jump).run P W3 = .ok (.bool jump.isNone) (W3.putObj (w.heap.size + 1) (.loop (rec (if jump.isNone then .ready else .done) jump))) ∧
      Sep n0 w0 (T x ++ eObj (w.heap.size + 1) (.loop (rec (if jump.isNone then .ready else .done) jump)) :: eObj w.heap.size (.deferred (some [])) :: es3) (W3.putObj (w.heap.size + 1) (.loop (rec (if jump.isNone then .ready else .done) jump))) := fun jump W3 es3 S3 => by
      have hl3 : W3.heap[w.heap.size + 1]? = some (.loop { rec .ready none with state := .busy }) := S3.get (T x).length (mid_get _ _ _)
      have h := run_endRound (P := P) jump hl3
      have S4 := S3.put (T x).length (mid_get _ _ _) (.loop (rec (if jump.isNone then .ready else .done) jump))
      rw [mid_set] at S4
      refine ⟨?_,S4⟩
      rw [hrec] at h ⊢
      exact h
     rintro e a3 W3 hp
     cases e with
     | normal =>
       obtain ⟨es3,hr3,S3⟩ := hp
       obtain ⟨h1,h2⟩ := fin none W3 es3 S3
       exact ⟨_,_,h1,.inl ⟨rfl,_,⟨es3,rfl,hr3⟩,h2⟩⟩
     | ret =>
       obtain ⟨es3,hr3,S3⟩ := hp
       obtain ⟨h1,h2⟩ := fin (some .ret) W3 es3 S3
       exact ⟨_,_,h1,.inr ⟨rfl,_,⟨.ret,es3,rfl,hr3⟩,h2⟩⟩
     | exit id =>
       obtain ⟨es3,hr3,S3⟩ := hp
       obtain ⟨h1,h2⟩ := fin (some (.exit id)) W3 es3 S3
       exact ⟨_,_,h1,.inr ⟨rfl,_,⟨.exit id,es3,rfl,hr3⟩,h2⟩⟩
     | goto t =>
       obtain ⟨es3,hr3,S3⟩ := hp
       obtain ⟨h1,h2⟩ := fin (some (.goto t)) W3 es3 S3
       exact ⟨_,_,h1,.inr ⟨rfl,_,⟨.goto t,es3,rfl,hr3⟩,h2⟩⟩
     | panic ch => exact hp.elim
     | outgrown => exact hp.elim
   · rintro e W2 ⟨⟨v,rfl⟩,(⟨k,es',hdn,⟨es1,rfl,hr⟩,S2⟩ | ⟨es',⟨c,es1,rfl,hr⟩,S2⟩)⟩
     · have hl : W2.heap[w.heap.size + 1]? = some (.loop (rec .ready none)) := S2.get 0 rfl
       exact ⟨none,_,by have := run_endLoop (P := P) hl (by rw [hrec]; simp); rw [hrec] at this; exact this,hdone _ k es1 _ hdn hr (S2.put 0 rfl _).drop1⟩
     · have hl : W2.heap[w.heap.size + 1]? = some (.loop (rec .done (some c))) := S2.get 0 rfl
       exact ⟨some c,_,by have := run_endLoop (P := P) hl (by rw [hrec]; simp); rw [hrec] at this; exact this,wpIn_wide.2 (hstop _ c es1 _ hr (S2.put 0 rfl _).drop1)⟩

theorem Oper.wp_round {P : Program} {o : Oper} {a : Act} {w : World} {next : Act → World → Prop} {Q : Exit → Act → World → Prop} {l m : Nat} (hd : ∀ c,o.op ≠ .defer c) (h : Oper.wp P o a w next Q) : Oper.wpIn (Fence.wide.inRound l) m P o a w next Q := by
 refine ⟨fun _ _ => trivial,?_⟩
 unfold Oper.wp at h
 rw [show (Fence.wide.inRound l).round = some l from rfl,Oper.semAt_eq (some l) a.eval o hd]
 generalize (execOp a.eval o).run P w = r at h ⊢
 match r,h with
 | .ok (.value v) w',h => exact h
 | .ok .skip w',h => exact h
 | .ok (.defer d) w',h => exact h
 | .ok (.enter f args) w',h => exact ⟨fun h => (by cases h),CallsIn.inRound l (callsIn_wide.2 h)⟩
 | .ok (.row row args) w',h => exact ⟨fun h => (by cases h),fun c cs _ => let ⟨v,w'',r,s⟩ := h c cs; ⟨v,w'',r,stepsIn_wide.2 s⟩⟩
 | .halt (.panic v) w',h => exact h
def noDefer (ops : Array Oper) : Bool := ops.toList.all fun o => match o.op with
 | .defer _ => false
 | _ => true
theorem noDefer_at {ops : Array Oper} (h : noDefer ops = true) {i : Nat} {o : Oper} (hi : ops[i]? = some o) : ∀ c,o.op ≠ .defer c := by
 intro c e
 have hm : o ∈ ops.toList := by
  obtain ⟨hlt,rfl⟩ := Array.getElem?_eq_some_iff.1 hi
  simp
 have := List.all_eq_true.1 h o hm
 rw [e] at this
 cases this
theorem wpOps_round {P : Program} {ops : Array Oper} {Q : Exit → Act → World → Prop} {l m : Nat} (hd : noDefer ops = true) (hQ : ∀ a w,¬ Q .outgrown a w) : ∀ (r : List Nat) (a : Act) (w : World),wpOps P ops Q r a w → wpOpsIn (Fence.wide.inRound l) m P ops Q r a w
 | [],a,w,h => h
 | i :: r,a,w,h => by
   unfold wpOps at h
   unfold wpOpsIn
   cases ho : ops[i]? with
   | none =>
     simp only [ho] at h ⊢
     exact wpOps_round hd hQ r a w h
   | some o =>
     simp only [ho] at h ⊢
     split
     · rename_i hw
       simp only [hw,if_true] at h
       exact Oper.wpIn_mono (fun a' w' h' => wpOps_round hd hQ r a' w' h') (Oper.wp_round (noDefer_at hd ho) (h.resolve_right fun ⟨_,a,w,h⟩ => hQ a w h))
     · rename_i hw
       simp only [hw] at h
       exact ⟨fun _ _ => trivial,wpOps_round hd hQ r _ w h⟩
theorem wpIn_region_plain {P : Program} {ops : Array Oper} {Q : Exit → Act → World → Prop} {id l m : Nat} {a : Act} {w : World} (hd : noDefer ops = true) (hQ : ∀ a w,¬ Q .outgrown a w) (h : wpOps P ops Q (List.range ops.size) a w) : (Code.region id ops false).wpIn (Fence.wide.inRound l) m P Q a w :=
 wpIn_region (wpOps_round hd hQ _ _ _ h)
end Go.Proofs.YtimdepdbcdbikaaGreat
