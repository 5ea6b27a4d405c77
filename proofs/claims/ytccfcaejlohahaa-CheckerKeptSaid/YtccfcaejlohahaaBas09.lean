/-
  The keys of two and of three numbers.
  The edges of an automaton as a map, and where a word leads.
  The law's own small functions: has, next, run, occurs, word.Equal.
  Lists of the call's own, element by element; what lies in blocks of the call's own.
  The program's errors of sets and automata: alphabet.CheckSet, automaton.Check.
  synthesis.problem: how a problem reads; distances.
  synthesis.problem: lost, blocked, next.
  slices.SortFunc of removals by their states, and result's closure.
  Plain: the supervisor, numbered as its states are found.
-/
import Derived.Test.YtccfcaejlohahaaBas01
import Derived.StillTailTactics
import Derived.Test.YtccfcaejlohahaaBas05
import Derived.Maps.AppendAt
import Derived.Test.YtccfcaejlohahaaBas02
import Derived.Test.YtccfcaejlohahaaBas08
import Derived.Shelf.SlSortCmp.NoneTotal
set_option linter.unusedSimpArgs false
set_option linter.unusedVariables false
namespace Go.Proofs.Ytccfcaejlohahaa
open Go.RowKit
set_option maxRecDepth 100000
theorem int_eqO (p q : Int) (n : Nat) (w : World) : (Op.equalIn (n + 1) 3 (.int .i64 p) (.int .i64 q)).run Try.prog w = .ok (p == q) w := by
 simp [Op.equalIn,run_underlying Try.underlying3]
theorem range2O : List.range' 0 2 = [0,1] := rfl
theorem range3 : List.range' 0 3 = [0,1,2] := rfl
theorem key2_eqO (x y : Int × Int) (w : World) : (Op.equal 138 (key2 x) (key2 y)).run Try.prog w = .ok (decide (x = y)) w := by
 obtain ⟨a,b⟩ := x
 obtain ⟨c,d⟩ := y
 simp only [Op.equal,Op.maxDepth,key2]
 rw [Op.equalIn]
 by_cases h1 : a = c <;> by_cases h2 : b = d <;> simp [run_underlying Try.underlying138,Result.andThen,go_sem,range2O,Try.isAgg3,int_eqO,h1,h2]
theorem key3_eq (x y : Int × Int × Int) (w : World) : (Op.equal 111 (key3 x) (key3 y)).run Try.prog w = .ok (decide (x = y)) w := by
 obtain ⟨a,b,e⟩ := x
 obtain ⟨c,d,f⟩ := y
 simp only [Op.equal,Op.maxDepth,key3]
 rw [Op.equalIn]
 by_cases h1 : a = c <;> by_cases h2 : b = d <;> by_cases h3 : e = f <;> simp [run_underlying Try.underlying111,Result.andThen,go_sem,range3,Try.isAgg3,int_eqO,h1,h2,h3]
theorem key2_chk (em : Bool) (x : Int × Int) (w : World) : (Instr.checkKey em 10000 138 (key2 x)).run Try.prog w = .ok () w := by
 obtain ⟨a,b⟩ := x
 cases em <;> kernel_rfl
theorem key2_stay (x : Int × Int) (w : World) : (Instr.keyThatStays (key2 x) (key2 x)).run Try.prog w = .ok (key2 x) w := by
 obtain ⟨a,b⟩ := x
 simp [Instr.keyThatStays,key2,Instr.sameBits]
theorem key3_chk (em : Bool) (x : Int × Int × Int) (w : World) : (Instr.checkKey em 10000 111 (key3 x)).run Try.prog w = .ok () w := by
 obtain ⟨a,b,c⟩ := x
 cases em <;> kernel_rfl
theorem key3_stay (x : Int × Int × Int) (w : World) : (Instr.keyThatStays (key3 x) (key3 x)).run Try.prog w = .ok (key3 x) w := by
 obtain ⟨a,b,c⟩ := x
 simp [Instr.keyThatStays,key3,Instr.sameBits]
theorem ok2O : KeyOk Try.prog 138 (.array 2 3) key2 := ⟨Try.underlying138,key2_eqO,key2_chk,key2_stay,fun _ _ => rfl,fun x y h => by
 obtain ⟨a,b⟩ := x
 obtain ⟨c,d⟩ := y
 simpa [key2] using h⟩
theorem ok3 : KeyOk Try.prog 111 (.array 3 3) key3 := ⟨Try.underlying111,key3_eq,key3_chk,key3_stay,fun _ _ => rfl,fun x y h => by
 obtain ⟨a,b,e⟩ := x
 obtain ⟨c,d,f⟩ := y
 simpa [key3] using h⟩
theorem zeroInt (w : World) : (zeroValue 3).run Try.prog w = .ok (.int .i64 0) w := by kernel_rfl
set_option maxHeartbeats 400000 in
theorem steps_c (a : Au) (p : AuP) (w : World) (h3 : EdsAt w p.A3 a.ed) (l3 : a.ed.length ≤ 140737488355328) :
 Calls Try.prog 32 #[a.val p] w (Maps key2 (stepOf a.ed) w) := by
 obtain ⟨al,n,mr,ed⟩ := a
 obtain ⟨A1,c1,A2,c2,A3,c3⟩ := p
 try dsimp only [Au.val] at *
 have G3 := Lib.hid h3
 clear h3
 have hmm := @run_makeMap Try.prog
 go_enter Try.func32,Try.ntmps32
 go_wp2
 go_loopw [10] (fun i wr => ∃ k : Nat,k ≤ ed.length ∧ i = .int .i64 k ∧ Hid (Below w.heap.size w wr) ∧ Hid (MapAt key2 wr (w.heap.size + 1) (stepOf (ed.take k)))) (fun i _ => ed.length - (intOf i).toNat)
 case atStart => exact ⟨0,by omega,rfl,((Below.new _ _).alloc (by simp) _),Lib.hid (by have := MapAt.made key2 (w.alloc (.cells #[.slice A1 al.length c1,.int .i64 n,.slice A2 mr.length c2,.slice A3 ed.length c3] 39)); simp at this; exact this.congr (fun x => rfl))⟩
 case round =>
  obtain ⟨k,hk,rfl,BW,HM⟩ := hrel
  have hsz : w.heap.size + 1 < wr.heap.size := HM.out.lt
  by_cases hlt : k < ed.length
  · obtain ⟨b,off,x,hA3,hb,hx,e0,e1,e2⟩ := EdsAt.at (G3.out.below EdE.stays BW.out) hlt
    obtain ⟨src,ev,dst⟩ := x
    subst hA3
    dsimp only at e0 e1 e2
    go_wp2_with (at_mapUpdate; refine wpList_mapUpdate_at _ rfl _ _ _ 98 138 3 rfl _ key2 ok2O Try.underlying98 (w.heap.size + 1) (stepOf (ed.take k)) (src,ev) dst rfl (HM.out.alloc _) rfl rfl ?_; intro w1 hm1 hg1; have HM1 := Lib.hid hm1; clear hm1; have HG1 := Lib.hid hg1; clear hg1)
    go_roundw
    case rel => exact ⟨k + 1,by omega,by go_num,((BW.out.alloc (by omega) _).grown HG1.out (by simp; omega) (fun j hj => by cases hj; omega)),HM1.out.congr (fun y => by rw [List.take_add_one,hx]; exact stepOf_snoc _ _ _)⟩
    case measure => simp [intOf]; omega
  · obtain rfl : k = ed.length := by omega
    go_wp2
    go_ret
    exact ⟨w.heap.size + 1,rfl,by omega,HM.out.congr (fun y => by rw [List.take_length]),BW.out⟩

set_option maxHeartbeats 400000 in
theorem to_c (b : Nat) (f : Int × Int → Option Int) (s e : Int) (w : World) (h : MapAt key2 w b f) :
 Calls Try.prog 33 #[.map (some b),.int .i64 s,.int .i64 e] w fun r w' => r = .returned (.int .i64 (toV f s e)) ∧ w = w' := by
 have hl : (Instr.lookup 98 (.map (some b)) (.agg #[.int .i64 s,.int .i64 e]) true).run Try.prog w = .ok (.tuple #[.int .i64 ((f (s,e)).getD 0),.bool (f (s,e)).isSome]) w := MapAt.look ok2O Try.underlying98 zeroInt h (s,e)
 clear h
 unfold toV
 cases hf : f (s,e) with
 | none =>
   rw [hf] at hl
   clear hf
   go_enter Try.func33,Try.ntmps33
   go_wp2
   go_ret
   exact ⟨rfl,rfl⟩
 | some t =>
   rw [hf] at hl
   clear hf
   go_enter Try.func33,Try.ntmps33
   go_wp2
   go_ret
   exact ⟨rfl,rfl⟩

set_option maxHeartbeats 400000 in
theorem follow_c (b : Nat) (f : Int × Int → Option Int) (s : Int) (A : Option Addr) (c : Nat) (l : List Int) (w : World) (h : MapAt key2 w b f) (hA : IntsAt w A l) (hl : l.length ≤ 140737488355328) :
 Calls Try.prog 44 #[.map (some b),.int .i64 s,.slice A l.length c] w fun r w' => r = .returned (.int .i64 (followV f s l)) ∧ w = w' := by
 have HM := Lib.hid h; clear h
 have HA := Lib.hid hA; clear hA
 go_enter Try.func44,Try.ntmps44
 go_wp2
 go_loop [1,11] (fun a i => ∃ (k : Nat) (t : Int),k ≤ l.length ∧ a = .int .i64 t ∧ i = .int .i64 k ∧ Hid (followV f s l = followV f t (l.drop k))) (fun _ i => l.length - (intOf i).toNat)
 case atStart => exact ⟨0,s,by omega,rfl,rfl,rfl⟩
 case round =>
  obtain ⟨k,t,hk,rfl,rfl,H⟩ := hrel
  by_cases hlt : k < l.length
  · obtain ⟨b1,off,x,rfl,hb,hx,hcx⟩ := IntsAt.at HA.out hlt
    have hd : l.drop k = x :: l.drop (k + 1) := by
     rw [List.drop_eq_getElem_cons hlt]
     rw [List.getElem?_eq_getElem hlt] at hx
     cases hx; rfl
    have hfl : Hid (followV f s l = if toV f t x = -1 then -1 else followV f (toV f t x) (l.drop (k + 1))) := by
     have := H.out; rw [hd] at this; exact this
    clear hd
    go_wp2_with fail
    refine (to_c b f t x _ HM.out).mono ?_
    rintro e w1 ⟨rfl,rfl⟩
    generalize toV f t x = z at hfl
    by_cases hz : z = -1
    · subst hz
      go_wp2
      go_ret
      exact ⟨ret_int (by rw [hfl.out]; simp),rfl⟩
    · have hz' : (z == -1) = false := by simpa using hz
      go_wp2
      go_round
      case rel => exact ⟨k + 1,z,by omega,rfl,by go_num,hfl.out.trans (if_neg hz)⟩
      case measure => simp [intOf]; omega
  · obtain rfl : k = l.length := by omega
    go_wp2
    go_ret
    exact ⟨ret_int (by rw [H.out,List.drop_length]; rfl),rfl⟩

section

section
variable {α : Type} {enc : α → List Value} {k T B : Nat} {l : List α} {v : Value} {w w' : World}
end
end
set_option maxHeartbeats 400000 in
theorem checkSetA_c (A : Option Addr) (c : Nat) (l : List Int) (n : Int) (w : World) (h : IntsAt w A l) (hl : l.length ≤ maxLen) :
 Calls Try.prog 49 #[.slice A l.length c,.int .i64 n] w (Errs (setOk l n l.length) w) := by
 unfold maxLen at hl
 go_enter Try.func49,Try.ntmps49
 go_wp2
 go_loop [5,6,9] (fun a b i => ∃ k : Nat,k ≤ l.length ∧ i = .int .i64 k ∧ Hid (setOk l n k)) (fun _ _ i => l.length - (intOf i).toNat)
 case atStart => exact ⟨0,by omega,rfl,fun i x h => absurd h (by omega)⟩
 case round =>
  obtain ⟨k,hk,rfl,hrel⟩ := hrel
  by_cases hlt : k < l.length
  · obtain ⟨b,off,x,rfl,_,hx,hcx⟩ := IntsAt.at h hlt
    by_cases hk0 : k = 0
    · subst hk0
      rw [Nat.add_zero] at hcx
      go_wp2
      any_goals (go_ret; exact Errs.no (setOk.not1 hx hlt (by omega)) (by decide) rfl)
      go_round
      case rel => exact ⟨1,by omega,by go_num,hrel.out.step hx (by omega) (by omega) (fun y h => absurd h (by omega))⟩
      case measure => simp [intOf]; omega
    · obtain ⟨y,hy,hcy⟩ := IntsAt.more h (k := k - 1) (by omega)
      go_wp2
      any_goals (go_ret; first | exact Errs.no (setOk.not1 hx hlt (by omega)) (by decide) rfl | exact Errs.no (setOk.not2 hx hlt (by omega) hy (by omega)) (by decide) rfl)
      go_round
      case rel => exact ⟨k+1,by omega,by go_num,hrel.out.step hx (by omega) (by omega) (fun z h hz => by rw [hy] at hz; cases hz; omega)⟩
      case measure => simp [intOf]; omega
  · obtain rfl : k = l.length := by omega
    go_wp2
    go_ret
    exact Errs.yes hrel.out rfl
structure SyAt (w : World) (a : Au) (p : AuP) (unc : List Int) (AU : Option Addr) (cU : Nat) (q : SyP) (left : Nat → Bool) : Prop where
 b : BlkAt w q.pb 126 (sySt a p unc AU cU q)
 l : BlkAt w q.lb 4 (mkB a.n.toNat left)
 m : MapG keyI veV w q.mb (bkF a.ed q.vs)
 r : ∀ d : Nat,d < a.n.toNat → ∃ (v : Value) (A : Option Addr) (c : Nat),q.vs[d]? = some v ∧ v = .slice A (predsOf a.ed d).length c ∧ IntsAt w A (predsOf a.ed d) ∧ (predsOf a.ed d = [] → v = .slice none 0 0)
 a : Au.At w a p
 u : IntsAt w AU unc
theorem SyAt.below {w w' : World} {a : Au} {p : AuP} {unc : List Int} {AU : Option Addr} {cU : Nat} {q : SyP} {left : Nat → Bool} (h : SyAt w a p unc AU cU q left) (hb : Below w.heap.size w w') : SyAt w' a p unc AU cU q left :=
 ⟨h.b.below hb h.b.lt,h.l.below hb h.l.lt,by
  obtain ⟨l,c,h1,h2⟩ := h.m
  have hlt := (Array.getElem?_eq_some_iff.1 h1).1
  exact ⟨l,c,(hb.block q.mb hlt).trans h1,h2⟩,fun d hd => by
  obtain ⟨v,A,c,h1,h2,h3,h4⟩ := h.r d hd
  exact ⟨v,A,c,h1,h2,h3.below IntE.stays hb,h4⟩,h.a.below hb,h.u.below IntE.stays hb⟩
theorem rows_at {w : World} {l : List Ed} {vs : List Value} {n : Nat} (h : (eRwsG encI 1 3 (predsOf l) vs).ok w) (hn : vs.length = n) : ∀ d : Nat,d < n → ∃ (v : Value) (A : Option Addr) (c : Nat),vs[d]? = some v ∧ v = .slice A (predsOf l d).length c ∧ IntsAt w A (predsOf l d) ∧ (predsOf l d = [] → v = .slice none 0 0) := fun d hd => by
 have hv : vs[d]? = some vs[d] := List.getElem?_eq_getElem (by omega)
 obtain ⟨h1,_,h3⟩ := h
 have ho := h1 d _ hv
 obtain ⟨A,c,e⟩ := Own.form ho
 refine ⟨vs[d],A,c,hv,e,?_,h3 d _ hv⟩
 rw [e] at ho
 exact OwnI.ints ho
def GivesSd (a : Au) (left : Nat → Bool) (w : World) (e : Ending) (w' : World) : Prop := ∃ (g : Nat) (d : Nat → Int),e = .returned (.slice (some ⟨g,0,none⟩) a.n.toNat a.n.toNat) ∧ Hid (DstOk a.n.toNat a.mr a.ed left d) ∧ Hid (Sep w.heap.size w [eBlk g 3 (mkI a.n.toNat d)] w')
set_option maxHeartbeats 8000000 in
theorem distS_c (a : Au) (p : AuP) (unc : List Int) (AU : Option Addr) (cU : Nat) (q : SyP) (left : Nat → Bool) (w : World) (hr : a.Right) (hS : SyAt w a p unc AU cU q left) :
 Calls Try.prog 54 #[.pointer (some ⟨q.pb,0,none⟩)] w (GivesSd a left w) := by
 have HS := Lib.hid hS
 have n0 := hr.n0
 have n1 := hr.n1
 have hml := hS.a.lmk
 have HMR : Hid (∀ x,x ∈ a.mr → 0 ≤ x ∧ x < a.n) := fun x hx => hr.mem hx
 have HND : Hid a.mr.Nodup := List.nodup_iff_pairwise_ne.2 ((rsp hr.mr.incr).imp fun {a b} hab e => by omega)
 have HER : Hid (∀ x,x ∈ a.ed → (0 ≤ x.src ∧ x.src < (a.n.toNat : Int)) ∧ 0 ≤ x.dst ∧ x.dst < (a.n.toNat : Int)) := fun x hx => by
  obtain ⟨k,hk,hkx⟩ := List.mem_iff_getElem.1 hx
  have := hr.ed k hk x (by rw [← hkx]; exact List.getElem?_eq_getElem hk)
  rw [Int.toNat_of_nonneg n0]
  exact ⟨⟨this.1,this.2.1⟩,this.2.2.1,this.2.2.2.1⟩
 obtain ⟨al,n,mr,ed⟩ := a
 obtain ⟨A1,c1,A2,c2,A3,c3⟩ := p
 obtain ⟨pb,mb,lb,vs⟩ := q
 dsimp only at n0 n1 hml HMR HND HER ⊢
 obtain ⟨N,rfl⟩ := Int.eq_ofNat_of_zero_le n0
 simp only [Int.toNat_natCast] at HER
 clear hr hS n0
 have hmk := make_run (P := Try.prog) 36 3 (.int .i64 0) 8 Try.underlying36 intInfo rfl N (by omega) (by omega)
 have HNN : Hid (((N : Nat) : Int).toNat = N) := Int.toNat_natCast N
 have p1 := HS.out.b.cell 1
 simp only [sySt,List.getElem?_cons_succ,List.getElem?_cons_zero] at p1
 go_enter Try.func54,Try.ntmps54
 obtain ⟨ob,hob⟩ : ∃ g,g = w.heap.size := ⟨_,rfl⟩
 go_upto_region 2 with fail
 rw [← hob]
 refine wp_world (fun W => Sep w.heap.size w [eBlk ob 3 (mkI N (fun t => if t < 0 then -1 else 0))] W) (by
  have h := (Sep.here w).alloc' 3 (mkI N fun _ => 0) (o := .cells (List.replicate N (.int .i64 0)).toArray 3) (by rw [← mkI_rep]) hob
  rw [show (mkI N fun _ => (0 : Int)) = mkI N fun t => if t < 0 then -1 else 0 from mkI_congr fun i _ => by simp] at h
  simpa using h) fun W S => ?_
 have S0 := Lib.hid S
 clear S hob hmk p1
 go_wp2_with fail
 go_loopw [19] (fun i wr => ∃ k : Nat,k ≤ N ∧ i = .int .i64 (k : Int) ∧ Hid (Sep w.heap.size w [eBlk ob 3 (mkI N (fun t => if t < k then -1 else 0))] wr)) (fun i _ => N - (intOf i).toNat)
 case atStart => exact ⟨0,by omega,rfl,S0.out⟩
 case round =>
  clear S0
  obtain ⟨k,hk,rfl,S⟩ := hrel
  by_cases hlt : k < N
  · have gf := BlkAt.free (S.out.get 0 rfl) k
    have gc := (BlkAt.cell (S.out.get 0 rfl) k).trans (mkI_get hlt)
    have S2 : Hid (Sep w.heap.size w [eBlk ob 3 (mkI N (fun t => if t < k + 1 then -1 else 0))] (wr.setCell ⟨ob,k,none⟩ (.int .i64 (-1)))) := by
     have h := S.out.set 0 rfl k (.int .i64 (-1))
     rw [mkI_set] at h
     have e : (mkI N fun t => if t = k then (-1 : Int) else if t < k then -1 else 0) = mkI N fun t => if t < k + 1 then -1 else 0 := mkI_congr fun t _ => by
      by_cases g : t = k
      · subst g; simp
      · by_cases g2 : t < k
        · rw [if_neg g,if_pos g2,if_pos (by omega)]
        · rw [if_neg g,if_neg g2,if_neg (by omega)]
     rw [e] at h
     exact h
    clear S
    go_wp2_with fail
    go_roundw
    case rel => exact ⟨k + 1,by omega,by go_num,S2.out⟩
    case measure => simp [intOf]; omega
  · obtain rfl : k = N := by omega
    have S1 : Hid (Sep w.heap.size w [eBlk ob 3 (mkI k (fun _ => -1)),eInts [] (.slice none 0 0)] wr) := by
     have h := (S.out.nilOwn encI 1 3).pick [1,0] (by decide)
     rw [show (mkI k fun t => if t < k then (-1 : Int) else 0) = mkI k fun _ => -1 from mkI_congr fun t ht => by rw [if_pos ht]] at h
     exact h
    clear S
    obtain ⟨N,hN⟩ : ∃ N,N = k := ⟨_,rfl⟩
    subst hN
    have p2 := (HS.out.below S1.out.below).b.cell 2
    simp only [sySt,List.getElem?_cons_succ,List.getElem?_cons_zero] at p2
    go_wp2_with fail
    clear p2
    go_loopw [32,5] (fun i vl wr => ∃ (k : Nat) (l : List Int) (d : Nat → Int) (A : Option Addr) (c : Nat),k ≤ mr.length ∧ i = .int .i64 (k : Int) ∧ vl = .slice A l.length c ∧ Hid (DM N mr left k l d) ∧ Hid (Sep w.heap.size w [eBlk ob 3 (mkI N d),eInts l (.slice A l.length c)] wr)) (fun i _ _ => mr.length - (intOf i).toNat)
    case atStart => exact ⟨0,[],_,none,0,by omega,rfl,rfl,DM.start,S1.out⟩
    case round =>
     clear S1 hlt hk
     obtain ⟨k,l,d,A,c,hk,rfl,rfl,DH,S⟩ := hrel
     have hlN := nodup_len N l DH.out.nd fun x hx => (DH.out.b x hx).1
     by_cases hlt : k < mr.length
     · obtain ⟨b,off,x0,hA2,hb,hx,cx⟩ := IntsAt.at (HS.out.below S.out.below).a.mr hlt
       have hxr := HMR.out x0 (List.mem_of_getElem? hx)
       obtain ⟨x,rfl⟩ := Int.eq_ofNat_of_zero_le hxr.1
       have hxN : x < N := by omega
       have HX := Lib.hid hx
       dsimp only at hA2
       subst hA2
       have p6 := (HS.out.below S.out.below).b.cell 6
       simp only [sySt,List.getElem?_cons_succ,List.getElem?_cons_zero,HNN.out] at p6
       have gc := ((HS.out.below S.out.below).l.cell x).trans (mkB_get (by simpa using hxN))
       dsimp only at gc
       obtain ⟨u,hu⟩ : ∃ u,u = left x := ⟨_,rfl⟩
       rw [← hu] at gc
       have HU := Lib.hid hu
       clear hx hb hxr hu
       cases u
       · have DN : Hid (DM N mr left (k + 1) l d) := DH.out.no HX.out HU.out.symm
         go_wp2_with fail
         go_roundw
         case rel => exact ⟨k + 1,l,d,A,c,by omega,by go_num,rfl,DN.out,S.out⟩
         case measure => simp [intOf]; omega
       · have DN : Hid (DM N mr left (k + 1) (l ++ [(x : Int)]) (fun t => if t = x then 0 else d t)) := DH.out.yes HX.out (by omega) HND.out HU.out.symm
         have of := BlkAt.free (S.out.get 0 rfl) x
         have oc := (BlkAt.cell (S.out.get 0 rfl) x).trans (mkI_get hxN)
         have S2 : Hid (Sep w.heap.size w [eBlk ob 3 (mkI N (fun t => if t = x then 0 else d t)),eInts l (.slice A l.length c)] (wr.setCell ⟨ob,x,none⟩ (.int .i64 0))) := by
          have h := S.out.set 0 rfl x (.int .i64 0)
          rw [mkI_set] at h
          exact h
         clear S
         go_upto_region 13 with fail
         refine wp_world (fun V => Hid (Sep w.heap.size w [eBlk ob 3 (mkI N (fun t => if t = x then 0 else d t)),eInts l (.slice A l.length c)] V)) S2 fun V S3 => ?_
         clear S2 of oc gc p6 cx
         go_wp2_with (at_builtin; refine wpList_pushS rfl _ _ 36 rfl (S3.out.alloc 3 [.int .i64 (x : Int)]) 2 rfl Try.underlying36 _ 8 intInfo rfl (by decide) rfl (x : Int) _ rfl rfl (one_cell _ _ [_] _ rfl) (encI_one _) (by omega) (by decide) ?_)
         intro A' c' w6 S9 _
         have S10 : Hid (Sep w.heap.size w [eBlk ob 3 (mkI N (fun t => if t = x then 0 else d t)),eInts (l ++ [(x : Int)]) (.slice A' (l ++ [(x : Int)]).length c')] w6) := by
          rw [show (l ++ [(x : Int)]).length = l.length + 1 by simp]
          exact S9.drop1
         clear S9 S3
         go_wp2_with fail
         go_roundw
         case rel => exact ⟨k + 1,_,_,A',c',by omega,by go_num,by simp,DN.out,S10.out⟩
         case measure => simp [intOf]; omega
     · obtain rfl : k = mr.length := by omega
       have DS : Hid (DI N mr ed left 0 0 l d) := DH.out.fin HER.out
       go_wp2_with fail
       go_loopw [8,5] (fun vi vl wr => ∃ (i : Nat) (l : List Int) (d : Nat → Int) (A : Option Addr) (c : Nat),vi = .int .i64 (i : Int) ∧ vl = .slice A l.length c ∧ i ≤ l.length ∧ Hid (DI N mr ed left i 0 l d) ∧ Hid (Sep w.heap.size w [eBlk ob 3 (mkI N d),eInts l (.slice A l.length c)] wr)) (fun vi _ _ => N - (intOf vi).toNat)
       case atStart => exact ⟨0,l,d,A,c,rfl,rfl,Nat.zero_le _,DS.out,S.out⟩
       case round =>
        clear S DS DH hlN hk hlt
        obtain ⟨i,l,d,A,c,rfl,rfl,hil,DH,S⟩ := hrel
        have hlN := nodup_len N l DH.out.nd DH.out.b
        by_cases hlt : i < l.length
        · obtain ⟨bl,ol,t0,rfl,hb,ht,cs⟩ := IntsAt.at (S.out.ints 1 rfl) hlt
          have htr := DH.out.b t0 (List.mem_of_getElem? ht)
          obtain ⟨t,rfl⟩ := Int.eq_ofNat_of_zero_le htr.1
          have htN : t < N := by omega
          have HT := Lib.hid ht
          obtain ⟨v,AV,cV,hv1,hv2,hv3,hv4⟩ := HS.out.r t (by simpa using htN)
          dsimp only at hv1 hv2 hv3 hv4
          have HV3 := Lib.hid hv3
          have p5 := (HS.out.below S.out.below).b.cell 5
          simp only [sySt,List.getElem?_cons_succ,List.getElem?_cons_zero] at p5
          have HMP := Lib.hid (HS.out.below S.out.below).m
          have hlk : ∀ j : Nat,(Instr.lookup 124 (.map (some mb)) (.int .i64 (t : Int)) false).run Try.prog (wr.drewN j) = .ok (.slice AV (predsOf ed t).length cV) (wr.drewN j) := fun j => by
           have h := (MapG.look okI Try.underlying124 zeroL (show MapG keyI veV (wr.drewN j) mb (bkF ed vs) from HMP.out) (t : Int)).2
           rw [bkF_get hv1 hv4] at h
           rw [← hv2]; exact h
          have hpl : (predsOf ed t).length ≤ 140737488355328 := by
           unfold predsOf
           rw [List.length_map]
           exact Nat.le_trans (List.length_filter_le _ _) HS.out.a.led
          clear hb ht htr hv1 hv2 hv3 hv4 HMP
          go_wp2_with fail
          go_quiet (fail)
          go_wp2_with fail
          go_loopw [67,5] (fun vj vl wx => ∃ (j : Nat) (l : List Int) (d : Nat → Int) (A : Option Addr) (c : Nat),vj = .int .i64 (j : Int) ∧ vl = .slice A l.length c ∧ j ≤ (predsOf ed t).length ∧ Hid (l[i]? = some (t : Int)) ∧ Hid (DI N mr ed left i j l d) ∧ Hid (Sep w.heap.size w [eBlk ob 3 (mkI N d),eInts l (.slice A l.length c)] wx)) (fun vj _ _ => (predsOf ed t).length - (intOf vj).toNat)
          case atStart => exact ⟨0,l,d,_,c,rfl,rfl,Nat.zero_le _,HT.out,DH.out,S.out.draws _⟩
          case round =>
           clear S DH HT hlN hil hlt cs p5 hlk
           obtain ⟨j,l,d,A,c,rfl,rfl,hj,HT,DH,S⟩ := hrel
           have hlN := nodup_len N l DH.out.nd DH.out.b
           have hil := (List.getElem?_eq_some_iff.1 HT.out).1
           by_cases hlt : j < (predsOf ed t).length
           · obtain ⟨by_,oy,y0,rfl,hb,hy,cy⟩ := IntsAt.at (HV3.out.below IntE.stays S.out.below) hlt
             obtain ⟨x,hx1,hx2,hx3⟩ := mem_predsOf'.1 (List.mem_of_getElem? hy)
             have hxr := (HER.out x hx1).1
             rw [hx3] at hxr
             obtain ⟨y,rfl⟩ := Int.eq_ofNat_of_zero_le hxr.1
             have hyN : y < N := by omega
             have HY := Lib.hid hy
             have p6 := (HS.out.below S.out.below).b.cell 6
             simp only [sySt,List.getElem?_cons_succ,List.getElem?_cons_zero,HNN.out] at p6
             have gc := ((HS.out.below S.out.below).l.cell y).trans (mkB_get (by simpa using hyN))
             dsimp only at gc
             obtain ⟨u,hu⟩ : ∃ u,u = left y := ⟨_,rfl⟩
             rw [← hu] at gc
             have HU := Lib.hid hu
             clear hb hy hx1 hx2 hx3 hxr hu
             cases u
             · have DN : Hid (DI N mr ed left i (j + 1) l d) := DH.out.no HT.out HY.out (.inl HU.out.symm)
               go_wp2_with fail
               go_roundw
               case rel => exact ⟨j + 1,l,d,A,c,by go_num,rfl,by omega,HT.out,DN.out,S.out⟩
               case measure => simp [intOf]; omega
             · have oc := (BlkAt.cell (S.out.get 0 rfl) y).trans (mkI_get hyN)
               by_cases hdy : d y < 0
               · have hdd : decide (d y < 0) = true := decide_eq_true hdy
                 have DN : Hid (DI N mr ed left i (j + 1) (l ++ [(y : Int)]) (fun s => if s = y then d t + 1 else d s)) := by
                  have h := DH.out.yes HT.out HY.out hyN HU.out.symm hdy
                  rw [Int.toNat_natCast] at h
                  exact h
                 have htb := DH.out.ix i t HT.out
                 rw [Int.toNat_natCast] at htb
                 have htd : 0 ≤ d t := (DH.out.mem t htN).2 (List.mem_of_getElem? HT.out)
                 have ot := (BlkAt.cell (S.out.get 0 rfl) t).trans (mkI_get htN)
                 have of := BlkAt.free (S.out.get 0 rfl) y
                 obtain ⟨bl,ol,t1,rfl,hb,ht,cs⟩ := IntsAt.at (S.out.ints 1 rfl) hil
                 rw [HT.out] at ht; cases ht
                 have wt : IntKind.i64.wrap (d t + 1) = d t + 1 := IntWalk.i64_in _ (by omega)
                 have S2 : Hid (Sep w.heap.size w [eBlk ob 3 (mkI N (fun s => if s = y then d t + 1 else d s)),eInts l (.slice (some ⟨bl,ol,none⟩) l.length c)] (wr.setCell ⟨ob,y,none⟩ (.int .i64 (d t + 1)))) := by
                  have h := S.out.set 0 rfl y (.int .i64 (d t + 1))
                  rw [mkI_set] at h
                  exact h
                 clear S hb
                 go_upto_region 23 with fail
                 refine wp_world (fun V => Hid (Sep w.heap.size w [eBlk ob 3 (mkI N (fun s => if s = y then d t + 1 else d s)),eInts l (.slice (some ⟨bl,ol,none⟩) l.length c)] V)) S2 fun V S3 => ?_
                 clear S2 of oc ot gc p6 cy cs
                 go_wp2_with (at_builtin; refine wpList_pushS rfl _ _ 36 rfl (S3.out.alloc 3 [.int .i64 (y : Int)]) 2 rfl Try.underlying36 _ 8 intInfo rfl (by decide) rfl (y : Int) _ rfl rfl (one_cell _ _ [_] _ rfl) (encI_one _) (by omega) (by decide) ?_)
                 intro A' c' w6 S9 _
                 have S10 : Hid (Sep w.heap.size w [eBlk ob 3 (mkI N (fun s => if s = y then d t + 1 else d s)),eInts (l ++ [(y : Int)]) (.slice A' (l ++ [(y : Int)]).length c')] w6) := by
                  rw [show (l ++ [(y : Int)]).length = l.length + 1 by simp]
                  exact S9.drop1
                 clear S9 S3
                 go_wp2_with fail
                 go_roundw
                 case rel => exact ⟨j + 1,_,_,A',c',by go_num,by simp,by omega,get_keep HT.out _,DN.out,S10.out⟩
                 case measure => simp [intOf]; omega
               · have hdd : decide (d y < 0) = false := decide_eq_false hdy
                 have DN : Hid (DI N mr ed left i (j + 1) l d) := DH.out.no HT.out HY.out (.inr (by simpa using hdy))
                 go_wp2_with fail
                 go_roundw
                 case rel => exact ⟨j + 1,l,d,A,c,by go_num,rfl,by omega,HT.out,DN.out,S.out⟩
                 case measure => simp [intOf]; omega
           · obtain rfl : j = (predsOf ed t).length := by omega
             have DN : Hid (DI N mr ed left (i + 1) 0 l d) := DI.next (t := (t : Int)) DH.out HT.out
             go_wp2_with fail
             go_roundw
             case rel => exact ⟨i + 1,l,d,A,c,by go_num,rfl,by omega,DN.out,S.out⟩
             case measure => simp [intOf]; omega
        · obtain rfl : i = l.length := by omega
          have DF : Hid (DstOk N mr ed left d) := DH.out.fin HER.out
          go_wp2_with fail
          go_ret
          exact ⟨ob,d,rfl,DF.out,S.out.pick [0] (by decide)⟩
theorem contains_quiet (A : Option Addr) (c : Nat) (l : List Int) (x : Int) (w : World) (n : Nat) (h : IntsAt w A l) (hl : l.length ≤ 140737488355328) (b : Bool) (hb : b = true ↔ x ∈ l) :
 Calls Try.prog 31 #[.slice A l.length c,.int .i64 x] (w.drewN n) fun e w'' => e = .returned (.bool b) ∧ ∃ m,w'' = w.drewN m :=
 Calls.quiet_of_same ((containsV_c A c l x (w.drewN n) (h.below IntE.stays ((Below.refl _ _).draws n)) hl).mono fun _ _ ⟨r,h1,h2,h3⟩ => ⟨by rw [h1]; congr 2; rw [Bool.eq_iff_iff,h2,hb],h3.symm⟩)
theorem rmOne (x : Rm) : ∀ u ∈ Rm.cells x,u.oneCell' = true := fun u hu => by simp [Rm.cells] at hu; rcases hu with rfl | rfl | rfl | rfl <;> rfl
theorem rmInfoS : (Try.prog.info? 70).map (fun i => (i.zero,i.size,i.bytes)) = some (some (.agg #[.int .i64 0,.int .i64 0,.int .i64 0,.int .i64 0]),4,32) := by kernel_rfl
abbrev eRms (l : List Rm) (v : Value) : Ent := eOwn Rm.cells 4 70 l v
theorem Sep.rmAt {n : Nat} {w0 w : World} {es : List Ent} {l : List Rm} {A : Option Addr} {c : Nat} (S : Sep n w0 es w) (i : Nat) (hi : es[i]? = some (eRms l (.slice A l.length c))) {k : Nat} {x : Rm} (hx : l[k]? = some x) : ∃ g off,A = some ⟨g,off,none⟩ ∧ w.cell? ⟨g,off + k * 4,none⟩ = some (.int .i64 x.st) ∧ w.cell? ⟨g,off + k * 4 + 1,none⟩ = some (.int .i64 x.rank) ∧ w.cell? ⟨g,off + k * 4 + 2,none⟩ = some (.int .i64 x.reason) ∧ w.cell? ⟨g,off + k * 4 + 3,none⟩ = some (.int .i64 x.ev) := by
 obtain ⟨b,off,y,vs,hA,_,hy,_,hE,hc⟩ := SlAt.at (Own.reads (enc := Rm.cells) (k := 4) (fun _ => rfl) (S.get i hi)) (List.getElem?_eq_some_iff.1 hx).1
 rw [hx] at hy; cases hy
 obtain rfl : vs = Rm.cells _ := hE
 exact ⟨b,off,hA,by simpa using hc 0 _ rfl,hc 1 _ rfl,hc 2 _ rfl,hc 3 _ rfl⟩
def GivesRm (Q : List Rm → Prop) (w : World) (e : Ending) (w' : World) : Prop := ∃ (R : List Rm) (A : Option Addr) (c : Nat),e = .returned (.slice A R.length c) ∧ Hid (Q R) ∧ Hid (Sep w.heap.size w [eRms R (.slice A R.length c)] w')
set_option maxHeartbeats 8000000 in
theorem lost_c (a : Au) (p : AuP) (unc : List Int) (AU : Option Addr) (cU : Nat) (q : SyP) (left : Nat → Bool) (rank : Int) (w : World) (hr : a.Right) (hS : SyAt w a p unc AU cU q left) (hul : unc.length ≤ 140737488355328) (hel : a.ed.length ≤ 1000000) :
 Calls Try.prog 83 #[.pointer (some ⟨q.pb,0,none⟩),.int .i64 rank] w (GivesRm (LostI unc left rank a.ed a.ed.length) w) := by
 have HS := Lib.hid hS
 have n0 := hr.n0
 have HER : Hid (∀ x,x ∈ a.ed → (0 ≤ x.src ∧ x.src < a.n) ∧ 0 ≤ x.dst ∧ x.dst < a.n) := fun x hx => by
  obtain ⟨k,hk,hkx⟩ := List.mem_iff_getElem.1 hx
  have := hr.ed k hk x (by rw [← hkx]; exact List.getElem?_eq_getElem hk)
  exact ⟨⟨this.1,this.2.1⟩,this.2.2.1,this.2.2.2.1⟩
 have HUP : Hid (∀ (i j : Nat) x y,i < j → a.ed[i]? = some x → a.ed[j]? = some y → x.src ≤ y.src) := fun i j x y hij hx hy => by
  have := hr.rises i j x y hij hx hy
  unfold edLt at this
  omega
 obtain ⟨al,n,mr,ed⟩ := a
 obtain ⟨A1,c1,A2,c2,A3,c3⟩ := p
 obtain ⟨pb,mb,lb,vs⟩ := q
 dsimp only at n0 HER HUP hel ⊢
 obtain ⟨N,rfl⟩ := Int.eq_ofNat_of_zero_le n0
 have HNN : Hid (((N : Nat) : Int).toNat = N) := Int.toNat_natCast N
 clear hr hS n0
 have p3 := HS.out.b.cell 3
 simp only [sySt,List.getElem?_cons_succ,List.getElem?_cons_zero] at p3
 go_enter Try.func83,Try.ntmps83
 go_wp2_with fail
 clear p3
 go_loopw [15,5] (fun i vl wr => ∃ (k : Nat) (R : List Rm) (A : Option Addr) (c : Nat),k ≤ ed.length ∧ i = .int .i64 (k : Int) ∧ vl = .slice A R.length c ∧ Hid (LostI unc left rank ed k R) ∧ Hid (Sep w.heap.size w [eRms R (.slice A R.length c)] wr)) (fun i _ _ => ed.length - (intOf i).toNat)
 case atStart => exact ⟨0,[],none,0,by omega,rfl,rfl,LostI.start ..,((Sep.here w).nilOwn Rm.cells 4 70)⟩
 case round =>
  obtain ⟨k,R,A,c,hk,rfl,rfl,LH,S⟩ := hrel
  by_cases hlt : k < ed.length
  · obtain ⟨b,off,x,hA3,hb,hx,e0,e1,e2⟩ := EdsAt.at (HS.out.below S.out.below).a.ed hlt
    have hxr := HER.out x (List.mem_of_getElem? hx)
    obtain ⟨xs,xev,xd⟩ := x
    dsimp only at hxr hA3 e0 e1 e2
    obtain ⟨s,rfl⟩ := Int.eq_ofNat_of_zero_le hxr.1.1
    obtain ⟨d,rfl⟩ := Int.eq_ofNat_of_zero_le hxr.2.1
    have hsN : s < N := by omega
    have hdN : d < N := by omega
    have HX := Lib.hid hx
    have hRl : R.length ≤ k := LH.out.ln
    subst hA3
    obtain ⟨xb,hxb⟩ : ∃ g,g = wr.heap.size := ⟨_,rfl⟩
    go_upto_region 5 with fail
    rw [← hxb]
    refine wp_world (fun V => Sep w.heap.size w [eRms R (.slice A R.length c),eBlk xb 68 [.int .i64 (s : Int),.int .i64 xev,.int .i64 (d : Int)]] V) ((S.out.alloc' _ [_,_,_] rfl hxb).pick [1,0] (by decide)) fun V S' => ?_
    have S2 := Lib.hid S'
    clear S S' hxb e0 e1 e2 hx hb hxr
    have x0 := BlkAt.cell (S2.out.get 1 rfl) 0; have x1 := BlkAt.cell (S2.out.get 1 rfl) 1; have x2 := BlkAt.cell (S2.out.get 1 rfl) 2; simp only [List.getElem?_cons_succ,List.getElem?_cons_zero] at x0 x1 x2
    have HS2 := Lib.hid (HS.out.below S2.out.below)
    have p4 := HS2.out.b.cell 4
    have p6 := HS2.out.b.cell 6
    simp only [sySt,List.getElem?_cons_succ,List.getElem?_cons_zero,HNN.out] at p4 p6
    have gs := (HS2.out.l.cell s).trans (mkB_get (by simpa using hsN))
    have gd := (HS2.out.l.cell d).trans (mkB_get (by simpa using hdN))
    dsimp only at gs gd
    obtain ⟨u,hu⟩ : ∃ u,u = left s := ⟨_,rfl⟩
    obtain ⟨v,hv⟩ : ∃ v,v = left d := ⟨_,rfl⟩
    obtain ⟨z,hz⟩ : ∃ z,z = decide (xev ∈ unc) := ⟨_,rfl⟩
    rw [← hu] at gs
    rw [← hv] at gd
    have HU := Lib.hid hu
    have HV := Lib.hid hv
    have HZ := Lib.hid hz
    have Q1 := Lib.hid (fun j => contains_quiet AU cU unc xev V j HS2.out.u hul z (by rw [hz]; simp))
    have HLP : Hid (lostP unc left ⟨(s : Int),xev,(d : Int)⟩ ↔ u = true ∧ v = false ∧ z = true) := by
     rw [Hid,hu,hv,hz]
     unfold lostP
     simp
    clear hu hv hz
    by_cases hall : u = true ∧ v = false ∧ z = true
    · obtain ⟨rfl,rfl,rfl⟩ := hall
      have HL := Lib.hid (HLP.out.2 ⟨rfl,rfl,rfl⟩)
      go_quiet (with_reducible exact Q1.out _)
      go_wp2_with fail
      refine wp_world (fun W => Hid (Sep w.heap.size w [eRms R (.slice A R.length c),eBlk xb 68 [.int .i64 (s : Int),.int .i64 xev,.int .i64 (d : Int)]] W)) (S2.out.draws _) fun W S3 => ?_
      clear S2 x0 x1 x2 p4 p6 gs gd Q1 HS2
      have x0 := BlkAt.cell (S3.out.get 1 rfl) 0; have x1 := BlkAt.cell (S3.out.get 1 rfl) 1; have x2 := BlkAt.cell (S3.out.get 1 rfl) 2; simp only [List.getElem?_cons_succ,List.getElem?_cons_zero] at x0 x1 x2
      have HSO : Hid (∀ i y,i < k → ed[i]? = some y → y.src ≤ (s : Int)) := fun i y hi hy => HUP.out i k y _ hi hy HX.out
      by_cases hR : R = []
      · subst hR
        have LY : Hid (LostI unc left rank ed (k + 1) (([] : List Rm) ++ [(⟨(s : Int),rank,2,xev⟩ : Rm)])) := LH.out.yes HX.out HL.out HSO.out (fun r hr => by simp at hr)
        go_quiet (fail)
        go_upto_region 8 with fail
        refine wp_world (fun W2 => Hid (Sep w.heap.size w [eRms ([] : List Rm) (.slice A ([] : List Rm).length c),eBlk xb 68 [.int .i64 (s : Int),.int .i64 xev,.int .i64 (d : Int)]] W2)) (S3.out.draws _) fun W2 S4 => ?_
        clear S3 x0 x1 x2
        have x0 := BlkAt.cell (S4.out.get 1 rfl) 0; have x1 := BlkAt.cell (S4.out.get 1 rfl) 1; have x2 := BlkAt.cell (S4.out.get 1 rfl) 2; simp only [List.getElem?_cons_succ,List.getElem?_cons_zero] at x0 x1 x2
        go_wp2_with (at_builtin; refine wpList_pushS rfl _ _ 45 rfl (S4.out.alloc 70 [.int .i64 (s : Int),.int .i64 rank,.int .i64 2,.int .i64 xev]) 1 rfl Try.underlying45 _ 32 rmInfoS rfl (by decide) rfl (⟨(s : Int),rank,2,xev⟩ : Rm) _ rfl rfl (fun k u hk => (BlkAt.cell (BlkAt.new _ _ _) k).trans hk) (rmOne _) (by first | omega | (simp; omega) | simp) (by decide) ?_)
        intro A' c' w6 S9 _
        have S10 : Hid (Sep w.heap.size w [eRms (([] : List Rm) ++ [(⟨(s : Int),rank,2,xev⟩ : Rm)]) (.slice A' (([] : List Rm) ++ [(⟨(s : Int),rank,2,xev⟩ : Rm)]).length c')] w6) := by
         rw [show (([] : List Rm) ++ [(⟨(s : Int),rank,2,xev⟩ : Rm)]).length = ([] : List Rm).length + 1 by simp]
         exact S9.pick [1] (by decide)
        clear S9 S4 x0 x1 x2
        go_wp2_with fail
        go_roundw
        case rel => exact ⟨k + 1,_,A',c',by omega,by go_num,by simp,LY.out,S10.out⟩
        case measure => simp [intOf]; omega
      · obtain ⟨m,hm⟩ : ∃ m,R.length = m + 1 := ⟨R.length - 1,by have : R.length ≠ 0 := fun g => hR (List.eq_nil_of_length_eq_zero g); omega⟩
        obtain ⟨r,hrm⟩ : ∃ r,R[m]? = some r := ⟨_,List.getElem?_eq_getElem (by omega)⟩
        have HRM := Lib.hid hrm
        have HM := Lib.hid hm
        have hlast : R.getLast? = some r := by rw [List.getLast?_eq_getElem?,hm]; exact hrm
        have HLA := Lib.hid hlast
        have hgt : decide ((R.length : Int) > 0) = true := decide_eq_true (by omega)
        have hgt2 : 0 < R.length := by omega
        have hmR : m < R.length := by omega
        have hwr : IntKind.i64.wrap ((R.length : Int) - 1) = (m : Int) := by rw [IntWalk.i64_in _ (by omega)]; omega
        have hsub : (R.length : Int) - 1 = (m : Int) := by omega
        obtain ⟨gA,oA,rfl,r0,_⟩ := S3.out.rmAt 0 rfl HRM.out
        clear hrm hm hlast
        by_cases he : r.st = (s : Int)
        · have heq : (r.st == (s : Int)) = true := by simpa using he
          have LN : Hid (LostI unc left rank ed (k + 1) R) := LH.out.no HX.out (.inr ⟨r,List.mem_of_getElem? HRM.out,he⟩)
          clear he
          go_quiet (fail)
          go_wp2_with fail
          go_roundw
          case rel => exact ⟨k + 1,R,some ⟨gA,oA,none⟩,c,by omega,by go_num,rfl,LN.out,(S3.out.draws _).pick [0] (by decide)⟩
          case measure => simp [intOf]; omega
        · have heq : (r.st == (s : Int)) = false := by simpa using he
          have LY : Hid (LostI unc left rank ed (k + 1) (R ++ [(⟨(s : Int),rank,2,xev⟩ : Rm)])) := LH.out.yes HX.out HL.out HSO.out (fun r' hr' => by rw [HLA.out] at hr'; cases hr'; exact he)
          clear he
          go_quiet (fail)
          go_upto_region 8 with fail
          refine wp_world (fun W2 => Hid (Sep w.heap.size w [eRms R (.slice (some ⟨gA,oA,none⟩) R.length c),eBlk xb 68 [.int .i64 (s : Int),.int .i64 xev,.int .i64 (d : Int)]] W2)) (S3.out.draws _) fun W2 S4 => ?_
          clear S3 x0 x1 x2 r0
          have x0 := BlkAt.cell (S4.out.get 1 rfl) 0; have x1 := BlkAt.cell (S4.out.get 1 rfl) 1; have x2 := BlkAt.cell (S4.out.get 1 rfl) 2; simp only [List.getElem?_cons_succ,List.getElem?_cons_zero] at x0 x1 x2
          go_wp2_with (at_builtin; refine wpList_pushS rfl _ _ 45 rfl (S4.out.alloc 70 [.int .i64 (s : Int),.int .i64 rank,.int .i64 2,.int .i64 xev]) 1 rfl Try.underlying45 _ 32 rmInfoS rfl (by decide) rfl (⟨(s : Int),rank,2,xev⟩ : Rm) _ rfl rfl (fun k u hk => (BlkAt.cell (BlkAt.new _ _ _) k).trans hk) (rmOne _) (by first | omega | (simp; omega) | simp) (by decide) ?_)
          intro A' c' w6 S9 _
          have S10 : Hid (Sep w.heap.size w [eRms (R ++ [(⟨(s : Int),rank,2,xev⟩ : Rm)]) (.slice A' (R ++ [(⟨(s : Int),rank,2,xev⟩ : Rm)]).length c')] w6) := by
           rw [show (R ++ [(⟨(s : Int),rank,2,xev⟩ : Rm)]).length = R.length + 1 by simp]
           exact S9.pick [1] (by decide)
          clear S9 S4 x0 x1 x2
          go_wp2_with fail
          go_roundw
          case rel => exact ⟨k + 1,_,A',c',by omega,by go_num,by simp,LY.out,S10.out⟩
          case measure => simp [intOf]; omega
    · have LN : Hid (LostI unc left rank ed (k + 1) R) := LH.out.no HX.out (.inl fun g => hall (HLP.out.1 g))
      cases u
      · go_quiet (with_reducible exact Q1.out _)
        go_wp2_with fail
        go_roundw
        case rel => exact ⟨k + 1,R,A,c,by omega,by go_num,rfl,LN.out,(S2.out.draws _).pick [0] (by decide)⟩
        case measure => simp [intOf]; omega
      · cases v
        · cases z
          · go_quiet (with_reducible exact Q1.out _)
            go_wp2_with fail
            go_roundw
            case rel => exact ⟨k + 1,R,A,c,by omega,by go_num,rfl,LN.out,(S2.out.draws _).pick [0] (by decide)⟩
            case measure => simp [intOf]; omega
          · exact absurd ⟨rfl,rfl,rfl⟩ hall
        · go_quiet (with_reducible exact Q1.out _)
          go_wp2_with fail
          go_roundw
          case rel => exact ⟨k + 1,R,A,c,by omega,by go_num,rfl,LN.out,(S2.out.draws _).pick [0] (by decide)⟩
          case measure => simp [intOf]; omega
  · obtain rfl : k = ed.length := by omega
    go_wp2_with fail
    go_ret
    exact ⟨R,A,c,rfl,LH.out,S.out⟩
set_option maxHeartbeats 8000000 in
theorem blocked_c (a : Au) (p : AuP) (unc : List Int) (AU : Option Addr) (cU : Nat) (q : SyP) (left : Nat → Bool) (rank : Int) (w : World) (hr : a.Right) (hS : SyAt w a p unc AU cU q left) :
 Calls Try.prog 84 #[.pointer (some ⟨q.pb,0,none⟩),.int .i64 rank] w (GivesRm (fun R => ∃ d,DstOk a.n.toNat a.mr a.ed left d ∧ R = blkV left d rank a.n.toNat) w) := by
 have HS := Lib.hid hS
 have n1 := hr.n1
 have hnn : a.n.toNat ≤ 4096 := by omega
 have CD := Lib.hid (distS_c a p unc AU cU q left w hr hS)
 obtain ⟨N,hN⟩ : ∃ N,N = a.n.toNat := ⟨_,rfl⟩
 rw [← hN] at hnn ⊢
 have HNN : Hid (a.n.toNat = N) := hN.symm
 clear hr hS hN n1
 go_enter Try.func84,Try.ntmps84
 go_wp2_with fail
 refine CD.out.mono ?_
 rintro e w1 ⟨g,d,rfl,HD,T⟩
 rw [HNN.out] at HD T ⊢
 have S0 : Hid (Sep w.heap.size w [eRms [] (.slice none 0 0),eBlk g 3 (mkI N d)] w1) := T.out.nilOwn Rm.cells 4 70
 clear CD T
 go_wp2_with fail
 go_loopw [11,5] (fun i vl wr => ∃ (k : Nat) (R : List Rm) (A : Option Addr) (c : Nat),k ≤ N ∧ i = .int .i64 (k : Int) ∧ vl = .slice A R.length c ∧ Hid (R = blkV left d rank k) ∧ Hid (Sep w.heap.size w [eRms R (.slice A R.length c),eBlk g 3 (mkI N d)] wr)) (fun i _ _ => N - (intOf i).toNat)
 case atStart => exact ⟨0,[],none,0,by omega,rfl,rfl,rfl,S0.out⟩
 case round =>
  clear S0
  obtain ⟨k,R,A,c,hk,rfl,rfl,HR,S⟩ := hrel
  have hRl : R.length ≤ k := by
   rw [HR.out]
   unfold blkV
   rw [List.length_map]
   exact Nat.le_trans (List.length_filter_le _ _) (by simp)
  by_cases hlt : k < N
  · have oc := (BlkAt.cell (S.out.get 1 rfl) k).trans (mkI_get hlt)
    have HS2 := Lib.hid (HS.out.below S.out.below)
    have p6 := HS2.out.b.cell 6
    simp only [sySt,List.getElem?_cons_succ,List.getElem?_cons_zero,HNN.out] at p6
    have gc := (HS2.out.l.cell k).trans (mkB_get (by rw [HNN.out]; exact hlt))
    obtain ⟨u,hu⟩ : ∃ u,u = left k := ⟨_,rfl⟩
    rw [← hu] at gc
    have HU := Lib.hid hu
    clear hu HS2
    by_cases hall : u = true ∧ d k < 0
    · obtain ⟨rfl,hd⟩ := hall
      have hdd : decide (d k < 0) = true := decide_eq_true hd
      have HR2 : Hid (R ++ [(⟨(k : Int),rank,3,-1⟩ : Rm)] = blkV left d rank (k + 1)) := by rw [Hid,blkV_yes ⟨HU.out.symm,hd⟩,← HR.out]
      go_wp2_with (at_builtin; refine wpList_pushS rfl _ _ 45 rfl (S.out.alloc 70 [.int .i64 (k : Int),.int .i64 rank,.int .i64 3,.int .i64 (-1)]) 1 rfl Try.underlying45 _ 32 rmInfoS rfl (by decide) rfl (⟨(k : Int),rank,3,-1⟩ : Rm) _ rfl rfl (fun k u hk => (BlkAt.cell (BlkAt.new _ _ _) k).trans hk) (rmOne _) (by omega) (by decide) ?_)
      intro A' c' w6 S9 _
      have S10 : Hid (Sep w.heap.size w [eRms (R ++ [(⟨(k : Int),rank,3,-1⟩ : Rm)]) (.slice A' (R ++ [(⟨(k : Int),rank,3,-1⟩ : Rm)]).length c'),eBlk g 3 (mkI N d)] w6) := by
       rw [show (R ++ [(⟨(k : Int),rank,3,-1⟩ : Rm)]).length = R.length + 1 by simp]
       exact S9.drop1
      clear S9 S oc p6 gc
      go_wp2_with fail
      go_roundw
      case rel => exact ⟨k + 1,_,A',c',by omega,by go_num,by simp,HR2.out,S10.out⟩
      case measure => simp [intOf]; omega
    · have HR2 : Hid (R = blkV left d rank (k + 1)) := by rw [Hid,blkV_no (fun g => hall ⟨HU.out.trans g.1,g.2⟩)]; exact HR.out
      cases u
      · go_wp2_with fail
        go_roundw
        case rel => exact ⟨k + 1,R,A,c,by omega,by go_num,rfl,HR2.out,S.out⟩
        case measure => simp [intOf]; omega
      · have hdd : decide (d k < 0) = false := decide_eq_false (fun g => hall ⟨rfl,g⟩)
        go_wp2_with fail
        go_roundw
        case rel => exact ⟨k + 1,R,A,c,by omega,by go_num,rfl,HR2.out,S.out⟩
        case measure => simp [intOf]; omega
  · obtain rfl : k = N := by omega
    go_wp2_with fail
    go_ret
    exact ⟨R,A,c,rfl,⟨d,HD.out,HR.out⟩,S.out.pick [0] (by decide)⟩
def NextOk (a : Au) (unc : List Int) (left : Nat → Bool) (rank : Int) (R : List Rm) : Prop := (R ≠ [] ∧ LostI unc left rank a.ed a.ed.length R) ∨ (LostI unc left rank a.ed a.ed.length [] ∧ ∃ d,DstOk a.n.toNat a.mr a.ed left d ∧ R = blkV left d rank a.n.toNat)
set_option maxHeartbeats 2000000 in
theorem nextS_c (a : Au) (p : AuP) (unc : List Int) (AU : Option Addr) (cU : Nat) (q : SyP) (left : Nat → Bool) (rank : Int) (w : World) (hr : a.Right) (hS : SyAt w a p unc AU cU q left) (hul : unc.length ≤ 140737488355328) (hel : a.ed.length ≤ 1000000) :
 Calls Try.prog 51 #[.pointer (some ⟨q.pb,0,none⟩),.int .i64 rank,.bool true] w (GivesRm (NextOk a unc left rank) w) := by
 have CL := Lib.hid (lost_c a p unc AU cU q left rank w hr hS hul hel)
 have CB := Lib.hid (fun W (hb : Below w.heap.size w W) => blocked_c a p unc AU cU q left rank W hr (hS.below hb))
 clear hr hS
 go_enter Try.func51,Try.ntmps51
 go_wp2_with fail
 refine CL.out.mono ?_
 rintro e w1 ⟨R,A,c,rfl,HL,T⟩
 clear CL
 by_cases hR : R = []
 · subst hR
   go_wp2_with fail
   refine (CB.out w1 T.out.below).mono ?_
   rintro e w2 ⟨R2,A2,c2,rfl,HB,T2⟩
   have S2 : Hid (Sep w.heap.size w [eRms R2 (.slice A2 R2.length c2)] w2) := (T.out.news T2.out).pick [0] (by decide)
   clear T T2
   go_wp2_with fail
   go_ret
   exact ⟨R2,A2,c2,rfl,.inr ⟨HL.out,HB.out⟩,S2.out⟩
 · have hn : R.length ≠ 0 := fun g => hR (List.eq_nil_of_length_eq_zero g)
   have hgt : decide ((R.length : Int) > 0) = true := decide_eq_true (by omega)
   have hgt2 : 0 < R.length := by omega
   have HN : Hid (NextOk a unc left rank R) := .inl ⟨hR,HL.out⟩
   clear hR hn
   go_wp2_with fail
   go_ret
   exact ⟨R,A,c,rfl,HN.out,T.out⟩
open Go.RowKit Go.Shelf Go.Lib
def laysSf_ren : Go.Shelf.Ren := ⟨fun | 6 => 52 | 15 => 86 | 14 => 85 | 28 => 101 | 29 => 102 | 20 => 93 | 21 => 94 | 22 => 95 | 23 => 96 | 24 => 97 | 25 => 98 | 26 => 99 | 27 => 100 | 46 => 104 | 47 => 105 | 48 => 106 | 49 => 107 | 50 => 108 | 57 => 109 | n => n,fun | 22 => 45 | 24 => 70 | 25 => 128 | 3 => 3 | 39 => 150 | 0 => 0 | 53 => 163 | 55 => 165 | 4 => 4 | 46 => 157 | 45 => 156 | 50 => 113 | 5 => 5 | 9 => 9 | 66 => 166 | 70 => 170 | 76 => 172 | 77 => 173 | n => n,fun | n => n⟩
theorem laysSf : Go.Proofs.SlLaysF0.n6 Try.prog laysSf_ren where
 mixed := by kernel_rfl
 f6 := ⟨"slices.SortFunc[[]overseer/api.Removal,overseer/api.Removal]", by decide, Try.func52.trans (congrArg some (by kernel_rfl))⟩
 f14 := ⟨"slices.pdqsortCmpFunc[overseer/api.Removal]", by decide, Try.func85.trans (congrArg some (by kernel_rfl))⟩
 f15 := Try.func86.trans (congrArg some (by kernel_rfl))
 f20 := ⟨"slices.insertionSortCmpFunc[overseer/api.Removal]", by decide, Try.func93.trans (congrArg some (by kernel_rfl))⟩
 f21 := ⟨"slices.heapSortCmpFunc[overseer/api.Removal]", by decide, Try.func94.trans (congrArg some (by kernel_rfl))⟩
 f22 := ⟨"slices.breakPatternsCmpFunc[overseer/api.Removal]", by decide, Try.func95.trans (congrArg some (by kernel_rfl))⟩
 f23 := ⟨"slices.choosePivotCmpFunc[overseer/api.Removal]", by decide, Try.func96.trans (congrArg some (by kernel_rfl))⟩
 f24 := ⟨"slices.reverseRangeCmpFunc[overseer/api.Removal]", by decide, Try.func97.trans (congrArg some (by kernel_rfl))⟩
 f25 := ⟨"slices.partialInsertionSortCmpFunc[overseer/api.Removal]", by decide, Try.func98.trans (congrArg some (by kernel_rfl))⟩
 f26 := ⟨"slices.partitionEqualCmpFunc[overseer/api.Removal]", by decide, Try.func99.trans (congrArg some (by kernel_rfl))⟩
 f27 := ⟨"slices.partitionCmpFunc[overseer/api.Removal]", by decide, Try.func100.trans (congrArg some (by kernel_rfl))⟩
 f28 := Try.func101.trans (congrArg some (by kernel_rfl))
 f29 := Try.func102.trans (congrArg some (by kernel_rfl))
 f46 := ⟨"slices.siftDownCmpFunc[overseer/api.Removal]", by decide, Try.func104.trans (congrArg some (by kernel_rfl))⟩
 f47 := Try.func105.trans (congrArg some (by kernel_rfl))
 f48 := Try.func106.trans (congrArg some (by kernel_rfl))
 f49 := ⟨"slices.medianAdjacentCmpFunc[overseer/api.Removal]", by decide, Try.func107.trans (congrArg some (by kernel_rfl))⟩
 f50 := ⟨"slices.medianCmpFunc[overseer/api.Removal]", by decide, Try.func108.trans (congrArg some (by kernel_rfl))⟩
 f57 := ⟨"slices.order2CmpFunc[overseer/api.Removal]", by decide, Try.func109.trans (congrArg some (by kernel_rfl))⟩
 t0 := Try.underlying0
 a0 := Try.isAgg0
 z0 := Try.sizeOf0
 v0 := Try.zeroValue0
 t3 := Try.underlying3
 a3 := Try.isAgg3
 z3 := Try.sizeOf3
 v3 := Try.zeroValue3
 t4 := Try.underlying4
 a4 := Try.isAgg4
 z4 := Try.sizeOf4
 v4 := Try.zeroValue4
 t5 := Try.underlying5
 a5 := Try.isAgg5
 z5 := Try.sizeOf5
 v5 := Try.zeroValue5
 t9 := Try.underlying9
 a9 := Try.isAgg9
 z9 := Try.sizeOf9
 v9 := Try.zeroValue9
 t22 := Try.underlying45
 a22 := Try.isAgg45
 z22 := Try.sizeOf45
 v22 := Try.zeroValue45
 t25 := Try.underlying128
 a25 := Try.isAgg128
 z25 := Try.sizeOf128
 v25 := Try.zeroValue128
 t39 := Try.underlying150
 a39 := Try.isAgg150
 z39 := Try.sizeOf150
 v39 := Try.zeroValue150
 t45 := Try.underlying156
 a45 := Try.isAgg156
 z45 := Try.sizeOf156
 v45 := Try.zeroValue156
 t46 := Try.underlying157
 a46 := Try.isAgg157
 z46 := Try.sizeOf157
 v46 := Try.zeroValue157
 t50 := Try.underlying113
 a50 := Try.isAgg113
 z50 := Try.sizeOf113
 v50 := Try.zeroValue113
 t53 := Try.underlying163
 a53 := Try.isAgg163
 z53 := Try.sizeOf163
 v53 := Try.zeroValue163
 t55 := Try.underlying165
 a55 := Try.isAgg165
 z55 := Try.sizeOf165
 v55 := Try.zeroValue165
 t66 := Try.underlying166
 a66 := Try.isAgg166
 z66 := Try.sizeOf166
 v66 := Try.zeroValue166
 t70 := Try.underlying170
 a70 := Try.isAgg170
 z70 := Try.sizeOf170
 v70 := Try.zeroValue170
 t76 := Try.underlying172
 a76 := Try.isAgg172
 z76 := Try.sizeOf172
 v76 := Try.zeroValue172
 t77 := Try.underlying173
 a77 := Try.isAgg173
 z77 := Try.sizeOf173
 v77 := Try.zeroValue173
structure RmS where
 val : Rm
 property : 0 ≤ val.st ∧ val.st ≤ 1000000
instance : Inhabited RmS := ⟨⟨⟨0,0,0,0⟩,by decide⟩⟩
def RmS.cells (x : RmS) : List Value := Rm.cells x.val
def RmS.cmp (x y : RmS) : Int := x.val.st - y.val.st
theorem RmS.swo : Go.Sort.SWO (ltOf RmS.cmp) where
 irrefl x := by simp [ltOf,RmS.cmp]
 trans x y z h1 h2 := by
  have h1 : x.val.st - y.val.st < 0 := of_decide_eq_true h1
  have h2 : y.val.st - z.val.st < 0 := of_decide_eq_true h2
  exact decide_eq_true (show x.val.st - z.val.st < 0 by omega)
 ntrans x y z h1 h2 := by
  have h1 : ¬ x.val.st - y.val.st < 0 := of_decide_eq_false h1
  have h2 : ¬ y.val.st - z.val.st < 0 := of_decide_eq_false h2
  exact decide_eq_false (show ¬ x.val.st - z.val.st < 0 by omega)
theorem flatK_list {α : Type} [Inhabited α] {enc : α → List Value} {k : Nat} (hk : ∀ x,(enc x).length = k) (l : List α) : (Go.Sort.flatK enc k l.toArray).toList = l.flatMap enc := by
 have hfl : (l.flatMap enc).length = l.length * k := by
  induction l with
  | nil => simp
  | cons a l ih => rw [List.flatMap_cons,List.length_append,ih,hk,List.length_cons,Nat.add_mul,Nat.one_mul,Nat.add_comm]
 apply List.ext_getElem?
 intro t
 by_cases ht : t < l.length * k
 · have k0 : 0 < k := by
    rcases Nat.eq_zero_or_pos k with h | h
    · subst h; simp at ht
    · exact h
   have hd : t / k < l.length := by rwa [Nat.div_lt_iff_lt_mul k0]
   have hm := Nat.mod_lt t k0
   have h1 := flat_get hk l (t / k) (t % k) l[t / k] (List.getElem?_eq_getElem hd) hm
   rw [Nat.mul_comm,Nat.div_add_mod] at h1
   have h2 := Go.Sort.get_flatK enc k l.toArray t (by simpa using ht)
   have hs : t < (Go.Sort.flatK enc k l.toArray).size := by rw [Go.Sort.size_flatK]; simpa using ht
   have e1 : (l.toArray)[t / k]! = l[t / k] := by simp [hd]
   rw [e1] at h2
   rw [h1,Array.getElem?_toList,Array.getElem?_eq_getElem hs]
   rw [getElem!_pos _ t hs] at h2
   rw [h2]
   have hm2 : t % k < (enc l[t / k]).length := by rw [hk]; exact hm
   rw [getElem!_pos (enc l[t / k]) (t % k) hm2,List.getElem?_eq_getElem hm2]
 · rw [List.getElem?_eq_none (by rw [Array.length_toList,Go.Sort.size_flatK]; simpa using Nat.le_of_not_lt ht),List.getElem?_eq_none (by omega)]
theorem holdsK_own {α : Type} [Inhabited α] {enc : α → List Value} {k : Nat} (hk : ∀ x,(enc x).length = k) {w : World} {g : Nat} {cur : Array Value} {e : TypeId} {l : List α} (hb : w.heap[g]? = some (.cells cur e (0,0))) (ht : cur.toList.take (l.length * k) = l.flatMap enc) : Go.Sort.HoldsK enc k w g 0 l.toArray := by
 intro j hj
 have hj' : j < l.length * k := by simpa using hj
 have hs : (Go.Sort.flatK enc k l.toArray)[j]? = some (Go.Sort.flatK enc k l.toArray)[j]! := by
  rw [getElem!_pos _ j hj]; exact Array.getElem?_eq_getElem hj
 refine ⟨?_,by simp [World.frozen?,hb]⟩
 have h1 : (cur.toList.take (l.length * k))[j]? = some (Go.Sort.flatK enc k l.toArray)[j]! := by
  rw [ht,← flatK_list hk l,Array.getElem?_toList]; exact hs
 rw [List.getElem?_take_of_lt hj',Array.getElem?_toList] at h1
 simp only [World.cell?,hb,Nat.zero_add]
 simp only [Option.isSome_none,Bool.false_eq_true,if_false]
 rw [h1]; rfl
theorem ownsRow_sortedK {α : Type} [Inhabited α] {enc : α → List Value} {k : Nat} (hk : ∀ x,(enc x).length = k) {w : World} {base g cap n : Nat} {e : TypeId} {os : Array Obj} {cur : Array Value} {len : Nat} {ts : List α} (hl : ts.length = len) (hbase : base ≤ g) (hb : w.heap[g]? = some (.cells cur e (0,0)))
 (h1 : len ≤ cap) (h2 : cap ≤ maxLen) (h3 : cur.size = cap * k) :
 (sortWorldK enc k w g 0 n ts.toArray os).ownsRow base e k (.slice (some ⟨g,0,none⟩) len cap) len (ts.flatMap enc) ∧ w.grownBy (sortWorldK enc k w g 0 n ts.toArray os) (some g) := by
 have hg : g < w.heap.size := (Array.getElem?_eq_some_iff.1 hb).1
 have hF := flatK_list hk ts
 have hlen : (ts.flatMap enc).length = len * k := by rw [← hF,Array.length_toList,Go.Sort.size_flatK,← hl]; simp
 have hle : len * k ≤ cap * k := Nat.mul_le_mul_right k h1
 unfold sortWorldK Go.Sort.putRowK
 generalize Go.Sort.flatK enc k ts.toArray = F at hF
 have hFs : F.size = len * k := by rw [← hlen,← hF,Array.length_toList]
 refine ⟨⟨hlen,.inr ⟨g,cap,Go.Sort.putCells id 0 F cur,rfl,hbase,?_,h1,h2,by simp [Go.Sort.putCells,h3],?_⟩⟩,⟨rfl,rfl,rfl,by simp,fun q hq hne => ?_⟩⟩
 · rw [Go.Sort.heap_grow_old _ _ (by simpa using hg)]
   simp [Go.Sort.putRow,Go.Sort.mapBlock,Go.Sort.ahead,Array.getElem?_modify,hb,Go.Sort.onCells]
 · rw [← hF]
   apply List.ext_getElem?
   intro j
   by_cases hj : j < len * k
   · rw [List.getElem?_take_of_lt hj,Array.getElem?_toList,Array.getElem?_toList]
     simp [Go.Sort.putCells,hFs,hj,show j < cur.size by omega]
   · rw [List.getElem?_take_eq_none (by omega),List.getElem?_eq_none (by rw [Array.length_toList]; omega)]
 · rw [Go.Sort.heap_grow_old _ _ (by simpa using hq)]
   have : g ≠ q := fun e => hne (by rw [e])
   simp [Go.Sort.putRow,Go.Sort.mapBlock,Go.Sort.ahead,Array.getElem?_modify,this]
set_option maxHeartbeats 2000000 in
theorem cmp_c (x y : RmS) (W : World) : Calls Try.prog 53 #[.agg (RmS.cells x).toArray,.agg (RmS.cells y).toArray] W fun e w' => e = .returned (.int .i64 (RmS.cmp x y)) ∧ ∃ q os',w' = Go.Sort.grow (W.drewN q) os' := by
 obtain ⟨⟨xs,xr,xc,xe⟩,hx⟩ := x
 obtain ⟨⟨ys,yr,yc,ye⟩,hy⟩ := y
 have hw : IntKind.i64.wrap (xs - ys) = xs - ys := IntWalk.i64_in _ (by dsimp only at hx hy; omega)
 simp only [RmS.cells,Rm.cells,RmS.cmp]
 clear hx hy
 go_enter Try.func53,Try.ntmps53
 go_wp2_with fail
 go_ret
 first
 | exact ⟨by rw [hw],0,_,by rw [Go.Sort.alloc_eq_grow,Go.Sort.alloc_eq_grow,Go.Sort.grow_grow]; rfl⟩
 | exact ⟨rfl,0,_,by rw [Go.Sort.alloc_eq_grow,Go.Sort.alloc_eq_grow,Go.Sort.grow_grow]; rfl⟩
def GivesSF (R : List Rm) (v : Value) (w : World) (e : Ending) (w' : World) : Prop := e = .returned (.tuple #[]) ∧ ∃ S : List Rm,S.Perm R ∧ (S.Pairwise fun p q => p.st ≤ q.st) ∧ Own Rm.cells 4 70 0 S v w' ∧ Off v.ownBlock.toList w w'
set_option maxHeartbeats 2000000 in
theorem sortF_c (A : Option Addr) (c : Nat) (R : List Rm) (w : World) (h : Own Rm.cells 4 70 0 R (.slice A R.length c) w) (hR : ∀ r,r ∈ R → 0 ≤ r.st ∧ r.st ≤ 1000000) (hl : R.length ≤ 1000000) :
 Calls Try.prog 52 #[.slice A R.length c,.func (.func 53) #[] #[]] w (GivesSF R (.slice A R.length c) w) := by
 rcases h.2 with ⟨h1,h2⟩ | ⟨g,cap,cur,h1,hb,h3,h4,h5,h6,h7⟩
 · obtain rfl := List.eq_nil_of_length_eq_zero h2
   refine (AnyF.slices_SortFunc_none laysSf A c _ w).mono ?_
   rintro e w' ⟨rfl,rfl⟩
   exact ⟨rfl,[],List.Perm.refl _,List.Pairwise.nil,h,⟨rfl,rfl,rfl,Nat.le_refl _,fun _ _ _ => rfl⟩⟩
 · cases h1
   have hg : g < w.heap.size := (Array.getElem?_eq_some_iff.1 h3).1
   obtain ⟨l,rfl⟩ : ∃ l : List RmS,R = l.map RmS.val := ⟨R.attach.map fun r => ⟨r.1,hR r.1 r.2⟩,by rw [List.map_map]; exact (List.attach_map_subtype_val R).symm⟩
   have h7' : cur.toList.take (l.length * 4) = l.flatMap RmS.cells := by
    rw [List.length_map] at h7
    rw [h7,List.flatMap_map]; rfl
   have hH := holdsK_own (enc := RmS.cells) (k := 4) (fun _ => rfl) h3 h7'
   have eg : ∀ args w,(callFunc 53 args).run Try.prog w = .ok (.enter 53 args) w := enters_of Try.func53 (by kernel_rfl) rfl
   have hcon := AnyQ.slices_SortFunc laysSf 4 Try.isAgg70 Try.sizeOf70 RmS.cells (fun _ => rfl) (fun x v hv => rmOne x.val v hv) RmS.cmp RmS.swo 53 #[] g 0 c l.toArray w eg (fun _ _ _ _ x y => cmp_c x y _) hH hg (by rw [List.length_map] at hl; simp; omega)
   rw [List.size_toArray] at hcon
   rw [List.length_map]
   refine hcon.mono ?_
   rintro e w' ⟨rfl,d',n,os,hp,hs,rfl⟩
   obtain ⟨ts,rfl⟩ : ∃ ts : List RmS,d' = ts.toArray := ⟨d'.toList,by simp⟩
   have hsz : ts.length = l.length := by simpa using hp.1
   have hpp : ts.Perm l := by
    have h := hp.2.2
    rw [show ts.toArray.extract 0 l.length = ts.toArray from by rw [← hsz]; simp,show l.toArray.extract 0 l.length = l.toArray from by simp] at h
    simpa using h
   rw [List.length_map] at h4
   obtain ⟨k1,k2⟩ := ownsRow_sortedK (enc := RmS.cells) (k := 4) (fun _ => rfl) (n := n) (os := os) hsz (Nat.zero_le g) h3 h4 h5 h6
   refine ⟨rfl,ts.map RmS.val,hpp.map _,?_,?_,Off.grown k2⟩
   · rw [List.pairwise_map,List.pairwise_iff_getElem]
     intro i j hi hj hij
     have := hs i j (Nat.zero_le _) hij (by omega)
     have e1 : ts.toArray[i]! = ts[i] := by simp [hi]
     have e2 : ts.toArray[j]! = ts[j] := by simp [hj]
     rw [e1,e2] at this
     have this : ¬ ts[j].val.st - ts[i].val.st < 0 := of_decide_eq_false this
     omega
   · show World.ownsRow _ _ _ _ _ _ _
     rw [List.length_map,hsz,List.flatMap_map]
     exact k1
section
def inL (left : Nat → Bool) (l : List Ed) (s : Nat) : List Ed := l.filter fun x => decide (x.src = (s : Int)) && left x.dst.toNat
theorem inL_push {left : Nat → Bool} {l : List Ed} {x : Ed} {s : Nat} (hx : x.src = (s : Int)) (hl : left x.dst.toNat = true) : inL left (l ++ [x]) s = inL left l s ++ [x] := by
 unfold inL; rw [List.filter_append]; simp [hx,hl]
theorem inL_ne {left : Nat → Bool} {l : List Ed} {x : Ed} {s : Nat} (h : ¬ (x.src = (s : Int) ∧ left x.dst.toNat = true)) : inL left (l ++ [x]) s = inL left l s := by
 unfold inL; rw [List.filter_append]
 by_cases g : x.src = (s : Int)
 · have : left x.dst.toNat = false := by cases hl : left x.dst.toNat with
    | false => rfl
    | true => exact absurd ⟨g,hl⟩ h
   simp [g,this]
 · simp [g]
theorem mem_inL {left : Nat → Bool} {l : List Ed} {s : Nat} {x : Ed} : x ∈ inL left l s ↔ x ∈ l ∧ x.src = (s : Int) ∧ left x.dst.toNat = true := by
 unfold inL; rw [List.mem_filter,Bool.and_eq_true,decide_eq_true_eq]
theorem inL_len (left : Nat → Bool) (l : List Ed) (s : Nat) : (inL left l s).length ≤ l.length := List.length_filter_le _ _
structure NumF (l : List Int) (f : Int → Option Int) : Prop where
 a : ∀ x y,f x = some y → 0 ≤ y ∧ l[y.toNat]? = some x
 b : ∀ x,f x = none → ¬ x ∈ l
theorem NumF.one : NumF [0] (fun u => if u = 0 then some 0 else none) := by
 refine ⟨fun x y h => ?_,fun x h => ?_⟩
 · split at h
   · cases h; subst x; exact ⟨by omega,rfl⟩
   · cases h
 · split at h
   · cases h
   · simpa using ‹¬ x = 0›
theorem NumF.push {l : List Int} {f : Int → Option Int} {x : Int} (h : NumF l f) (hx : ¬ x ∈ l) : NumF (l ++ [x]) (fun u => if u = x then some (l.length : Int) else f u) := by
 refine ⟨fun u y hu => ?_,fun u hu => ?_⟩
 · split at hu
   · cases hu; subst u; exact ⟨by omega,by simp⟩
   · obtain ⟨h1,h2⟩ := h.a u y hu
     exact ⟨h1,by rw [List.getElem?_append_left (List.getElem?_eq_some_iff.1 h2).1]; exact h2⟩
 · split at hu
   · cases hu
   · have := h.b u hu
     simp [this,‹¬ u = x›]
structure SvE (l : List Int) (k : Nat) (x e : Ed) : Prop where
 s : e.src = (k : Int)
 v : e.ev = x.ev
 d0 : 0 ≤ e.dst
 d : l[e.dst.toNat]? = some x.dst
theorem SvE.more {l m : List Int} {k : Nat} {x e : Ed} (h : SvE l k x e) : SvE (l ++ m) k x e := ⟨h.s,h.v,h.d0,by rw [List.getElem?_append_left (List.getElem?_eq_some_iff.1 h.d).1]; exact h.d⟩
structure SvI (n : Nat) (ed : List Ed) (left : Nat → Bool) (i j : Nat) (l : List Int) (es : List Ed) : Prop where
 nd : l.Nodup
 hd : l[0]? = some 0
 b : ∀ x,x ∈ l → (0 ≤ x ∧ x < (n : Int)) ∧ left x.toNat = true
 il : i ≤ l.length
 a : ∀ e,e ∈ es → ∃ (k : Nat) (s : Int) (x : Ed),l[k]? = some s ∧ SvE l k x e ∧ x ∈ inL left ed s.toNat ∧ (k < i ∨ k = i ∧ x ∈ (inL left ed s.toNat).take j)
 c : ∀ (k : Nat) (s : Int),k < i → l[k]? = some s → ∀ x,x ∈ inL left ed s.toNat → ∃ e,e ∈ es ∧ SvE l k x e
 cj : ∀ s,l[i]? = some s → ∀ x,x ∈ (inL left ed s.toNat).take j → ∃ e,e ∈ es ∧ SvE l i x e
 fd : ∀ k : Nat,0 < k → k < l.length → ∃ e,e ∈ es ∧ e.dst = (k : Int) ∧ e.src < (k : Int)
 up : es.Pairwise fun x y => x.src < y.src ∨ x.src = y.src ∧ x.ev < y.ev
 ln : es.length ≤ i * ed.length + j
section
variable {n : Nat} {ed : List Ed} {left : Nat → Bool} {i j : Nat} {l : List Int} {es : List Ed}
theorem SvI.start (hn : 0 < n) (hl : left 0 = true) : SvI n ed left 0 0 [0] [] := by
 refine ⟨by simp,rfl,fun x hx => ?_,by simp,by simp,fun k _ hk => absurd hk (by omega),by simp,fun k h1 h2 => ?_,List.Pairwise.nil,by simp⟩
 · obtain rfl := List.mem_singleton.1 hx
   exact ⟨⟨by omega,by omega⟩,hl⟩
 · simp at h2; omega
theorem SvI.next {s : Int} (h : SvI n ed left i (inL left ed s.toNat).length l es) (hs : l[i]? = some s) : SvI n ed left (i + 1) 0 l es := by
 have hi := (List.getElem?_eq_some_iff.1 hs).1
 refine ⟨h.nd,h.hd,h.b,by omega,fun e he => ?_,fun k t hk ht x hx => ?_,by simp,h.fd,h.up,?_⟩
 · obtain ⟨k,t,x,h1,h2,h3,h4⟩ := h.a e he
   exact ⟨k,t,x,h1,h2,h3,.inl (by rcases h4 with g | g <;> omega)⟩
 · rcases Nat.lt_or_ge k i with g | g
   · exact h.c k t g ht x hx
   · obtain rfl : k = i := by omega
     rw [hs] at ht; cases ht
     exact h.cj s hs x (by rw [List.take_length]; exact hx)
 · have := h.ln
   have := inL_len left ed s.toNat
   rw [Nat.add_mul,Nat.one_mul]; omega
theorem SvI.edge {s : Int} {x : Ed} {t : Nat} {m : List Int} (h : SvI n ed left i j l es) (hs : l[i]? = some s) (hx : (inL left ed s.toNat)[j]? = some x) (hu : ∀ (p q : Nat) (a b : Ed),p < q → ed[p]? = some a → ed[q]? = some b → a.src = b.src → a.ev < b.ev)
 (ht : (l ++ m)[t]? = some x.dst) (hm : m = [] ∨ m = [x.dst] ∧ ¬ x.dst ∈ l ∧ t = l.length ∧ (0 ≤ x.dst ∧ x.dst < (n : Int))) : SvI n ed left i (j + 1) (l ++ m) (es ++ [⟨(i : Int),x.ev,(t : Int)⟩]) := by
 have hi := (List.getElem?_eq_some_iff.1 hs).1
 have hs' : (l ++ m)[i]? = some s := by rw [List.getElem?_append_left hi]; exact hs
 have hxm := mem_inL.1 (List.mem_of_getElem? hx)
 have tk : (inL left ed s.toNat).take (j + 1) = (inL left ed s.toNat).take j ++ [x] := by rw [List.take_add_one,hx]; rfl
 have hE : SvE (l ++ m) i x ⟨(i : Int),x.ev,(t : Int)⟩ := ⟨rfl,rfl,by show (0 : Int) ≤ t; omega,by show (l ++ m)[(t : Int).toNat]? = _; rw [Int.toNat_natCast]; exact ht⟩
 have old : ∀ (k : Nat) (t : Int),l[k]? = some t → (l ++ m)[k]? = some t := fun k t hk => by rw [List.getElem?_append_left (List.getElem?_eq_some_iff.1 hk).1]; exact hk
 refine ⟨?_,old 0 0 h.hd,fun z hz => ?_,by rw [List.length_append]; have := h.il; omega,fun e he => ?_,fun k u hk hku z hz => ?_,fun u hu2 z hz => ?_,fun k h0 hk => ?_,?_,by rw [List.length_append,List.length_singleton]; have := h.ln; omega⟩
 · rcases hm with rfl | ⟨rfl,h1,_⟩
   · rw [List.append_nil]; exact h.nd
   · rw [List.nodup_append]
     exact ⟨h.nd,by simp,fun a ha b hb e => by simp at hb; subst hb; subst e; exact h1 ha⟩
 · rcases List.mem_append.1 hz with g | g
   · exact h.b z g
   · rcases hm with rfl | ⟨rfl,_,_,h3⟩
     · cases g
     · obtain rfl := List.mem_singleton.1 g
       exact ⟨h3,hxm.2.2⟩
 · rcases List.mem_append.1 he with g | g
   · obtain ⟨k,u,z,h1,h2,h3,h4⟩ := h.a e g
     refine ⟨k,u,z,old _ _ h1,h2.more,h3,?_⟩
     rcases h4 with g | ⟨g,g2⟩
     · exact .inl g
     · refine .inr ⟨g,?_⟩
       subst g
       rw [hs] at h1; cases h1
       rw [tk]; exact List.mem_append_left _ g2
   · obtain rfl := List.mem_singleton.1 g
     exact ⟨i,s,x,hs',hE,List.mem_of_getElem? hx,.inr ⟨rfl,by rw [tk]; simp⟩⟩
 · rw [List.getElem?_append_left (by omega)] at hku
   obtain ⟨e,h1,h2⟩ := h.c k u hk hku z hz
   exact ⟨e,List.mem_append_left _ h1,h2.more⟩
 · rw [hs'] at hu2; cases hu2
   rw [tk,List.mem_append,List.mem_singleton] at hz
   rcases hz with g | rfl
   · obtain ⟨e,h1,h2⟩ := h.cj s hs z g
     exact ⟨e,List.mem_append_left _ h1,h2.more⟩
   · exact ⟨_,List.mem_append_right _ (List.mem_singleton.2 rfl),hE⟩
 · rcases Nat.lt_or_ge k l.length with g | g
   · obtain ⟨e,h1,h2,h3⟩ := h.fd k h0 g
     exact ⟨e,List.mem_append_left _ h1,h2,h3⟩
   · rcases hm with rfl | ⟨rfl,_,h2,_⟩
     · rw [List.append_nil] at hk; omega
     · rw [List.length_append,List.length_singleton] at hk
       refine ⟨_,List.mem_append_right _ (List.mem_singleton.2 rfl),?_,?_⟩
       · show (t : Int) = k; omega
       · show (i : Int) < k; omega
 · refine List.pairwise_append.2 ⟨h.up,List.pairwise_singleton ..,fun e he e' he' => ?_⟩
   obtain rfl := List.mem_singleton.1 he'
   obtain ⟨k,u,z,h1,h2,h3,h4⟩ := h.a e he
   show e.src < (i : Int) ∨ e.src = (i : Int) ∧ e.ev < x.ev
   rw [h2.s,h2.v]
   rcases h4 with g | ⟨g,g2⟩
   · exact .inl (by omega)
   · refine .inr ⟨by omega,?_⟩
     subst g
     rw [hs] at h1; cases h1
     obtain ⟨p,hp,hpz⟩ := List.mem_iff_getElem.1 g2
     rw [List.length_take] at hp
     rw [List.getElem_take] at hpz
     have hj := (List.getElem?_eq_some_iff.1 hx)
     have hpw : (inL left ed s.toNat).Pairwise fun (a b : Ed) => a.src = b.src → a.ev < b.ev := by
      unfold inL
      refine List.Pairwise.filter _ (List.pairwise_iff_getElem.2 fun p q hp hq hpq => ?_)
      exact hu p q _ _ hpq (List.getElem?_eq_getElem hp) (List.getElem?_eq_getElem hq)
     have := List.pairwise_iff_getElem.1 hpw p j (by omega) hj.1 (by omega)
     rw [hpz,hj.2] at this
     exact this (by rw [(mem_inL.1 h3).2.1,hxm.2.1])
end
def mG (mr l : List Int) (k : Nat) : Bool := decide (l.getD k (-1) ∈ mr)
theorem mG_at {mr l : List Int} {k : Nat} {s : Int} (h : l[k]? = some s) : mG mr l k = decide (s ∈ mr) := by
 unfold mG; rw [List.getD_eq_getElem?_getD,h]; rfl
theorem mkV_more {mr l m : List Int} {k : Nat} (h : k ≤ l.length) : mkV (mG mr (l ++ m)) k = mkV (mG mr l) k := by
 unfold mkV
 congr 1
 refine List.filter_congr fun s hs => ?_
 have := List.mem_range.1 hs
 obtain ⟨x,hx⟩ : ∃ x,l[s]? = some x := ⟨_,List.getElem?_eq_getElem (by omega)⟩
 rw [mG_at hx,mG_at (by rw [List.getElem?_append_left (by omega)]; exact hx)]
structure SvOk (au : Au) (left : Nat → Bool) (s : Au) (l : List Int) : Prop where
 al : s.al = au.al
 n : s.n = (l.length : Int)
 mr : s.mr = mkV (mG au.mr l) l.length
 none_ : au.n = 0 ∨ left 0 = false → l = [] ∧ s.ed = []
 some_ : au.n ≠ 0 → left 0 = true → SvI au.n.toNat au.ed left l.length 0 l s.ed
end
end Go.Proofs.Ytccfcaejlohahaa
