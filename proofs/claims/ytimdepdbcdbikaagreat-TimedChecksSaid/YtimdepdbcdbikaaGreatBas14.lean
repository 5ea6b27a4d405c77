/-
  timed.Check of a right model.
  timed: clocks as keys of maps; lists of clocks.
  Plain: the timed automaton, built breadth first.
  Plain: what timed.Duration counts: spans of ticks at clocks, in lists whose order is told.
  Words for memory: a map of the call's own over which a loop ranges.
-/
import Derived.Test.YtimdepdbcdbikaaGreatBas13
import Derived.BigQuiet
import Derived.DeepKeys
import Derived.Test.YtimdepdbcdbikaaGreatBas03
import Derived.Maps.RangeWalk
set_option linter.unusedSimpArgs false
set_option linter.unusedVariables false
namespace Go.Proofs.YtimdepdbcdbikaaGreat
open Go.RowKit
set_option maxRecDepth 100000
set_option maxHeartbeats 4000000 in
theorem check44_c (m : Md) (P : MdP) (w : World) (hm : m.Ok) (hA : Md.At w m P) :
 Calls Tryz.prog 18 #[.agg (m.cells P).toArray] w (Ret (.int .i64 0) w) := by
 have HM := Lib.hid hm
 have HA := Lib.hid hA
 have h32 := hm.len32
 have HLL := Lib.hid hm.len
 have htk := hm.tk
 have HNO := Lib.hid hm.no
 have HEV : Hid (∀ (k : Nat) x,m.ac[k]? = some x → m.a.al[k]? = some x.ev) := fun k x hx => by rw [← hm.ev,List.getElem?_map,hx]; rfl
 have HBD := Lib.hid hm.bd
 obtain ⟨⟨al,n,mr,ed⟩,ac,tk⟩ := m
 obtain ⟨⟨A1,c1,A2,c2,A3,c3⟩,B,d⟩ := P
 dsimp only [Md.cells] at h32 HLL htk HNO HEV HBD ⊢
 clear hm hA
 go_enter Tryz.func18,Tryz.ntmps18
 obtain ⟨mb,hmb⟩ : ∃ g,g = w.heap.size := ⟨_,rfl⟩
 obtain ⟨ab,hab⟩ : ∃ g,g = w.heap.size + 1 := ⟨_,rfl⟩
 go_upto_region 1 with fail
 rw [← hmb]
 refine wp_world (fun W => Sep w.heap.size w [eBlk mb 37 [.slice A1 al.length c1,.int .i64 n,.slice A2 mr.length c2,.slice A3 ed.length c3,.slice B ac.length d,.int .i64 tk]] W ∧ W.heap.size = ab) ⟨(Sep.here w).alloc' _ [_,_,_,_,_,_] rfl hmb,by rw [hab]; simp⟩ fun W ⟨S,hW⟩ => ?_
 have S0 := Lib.hid S
 clear S hmb hab
 have a0 := BlkAt.cell (S0.out.get 0 rfl) 0; have a1 := BlkAt.cell (S0.out.get 0 rfl) 1; have a2 := BlkAt.cell (S0.out.get 0 rfl) 2; have a3 := BlkAt.cell (S0.out.get 0 rfl) 3; simp only [List.getElem?_cons_succ,List.getElem?_cons_zero] at a0 a1 a2 a3
 go_upto_region 2 with fail
 try rw [hW]
 refine wp_world (fun V => Sep w.heap.size w [eBlk ab 34 [.slice A1 al.length c1,.int .i64 n,.slice A2 mr.length c2,.slice A3 ed.length c3],eBlk mb 37 [.slice A1 al.length c1,.int .i64 n,.slice A2 mr.length c2,.slice A3 ed.length c3,.slice B ac.length d,.int .i64 tk]] V) (S0.out.alloc' _ [_,_,_,_] rfl hW.symm) fun W1 S => ?_
 have S1 := Lib.hid S
 clear S S0 hW a0 a1 a2 a3
 have a0 := BlkAt.cell (S1.out.get 0 rfl) 0; have a1 := BlkAt.cell (S1.out.get 0 rfl) 1; have a2 := BlkAt.cell (S1.out.get 0 rfl) 2; have a3 := BlkAt.cell (S1.out.get 0 rfl) 3; simp only [List.getElem?_cons_succ,List.getElem?_cons_zero] at a0 a1 a2 a3
 go_wp2_with fail
 refine (CheckX_c ⟨al,n,mr,ed⟩ ⟨A1,c1,A2,c2,A3,c3⟩ W1 (HA.out.a.below S1.out.below)).mono ?_
 rintro e w2 ⟨r,rfl,hr,hb⟩
 obtain rfl : r = 0 := hr.zero.2 HM.out.a
 have S2 := Lib.hid (S1.out.next hb)
 clear S1 hb hr a0 a1 a2 a3
 have a0 := BlkAt.cell (S2.out.get 0 rfl) 0; simp only [List.getElem?_cons_succ,List.getElem?_cons_zero] at a0
 have b4 := BlkAt.cell (S2.out.get 1 rfl) 4; have b5 := BlkAt.cell (S2.out.get 1 rfl) 5; simp only [List.getElem?_cons_succ,List.getElem?_cons_zero] at b4 b5
 have hd1 : decide (tk < 0) = false := decide_eq_false (by omega)
 have hd2 : decide (32 ≤ tk) = false := decide_eq_false (by omega)
 have hd3 : ((ac.length : Int) != (al.length : Int)) = false := by have := HLL.out; simp [this]
 have CV := Lib.hid (containsV_c A1 c1 al tk w2 (HA.out.a.al.below IntE.stays S2.out.below) (by have := HLL.out; omega))
 go_wp2_with fail
 refine CV.out.mono ?_
 intro e w5 hs
 obtain ⟨rfl,rfl⟩ := hs.no3 HNO.out
 clear hs CV
 go_wp2_with fail
 clear a0 b4 b5
 go_loopw [37] (fun i wr => ∃ k : Nat,i = .int .i64 (k : Int) ∧ k ≤ ac.length ∧ Hid (Sep w.heap.size w [eBlk ab 34 [.slice A1 al.length c1,.int .i64 n,.slice A2 mr.length c2,.slice A3 ed.length c3],eBlk mb 37 [.slice A1 al.length c1,.int .i64 n,.slice A2 mr.length c2,.slice A3 ed.length c3,.slice B ac.length d,.int .i64 tk]] wr)) (fun i _ => ac.length - (intOf i).toNat)
 case atStart => exact ⟨0,rfl,Nat.zero_le _,S2.out⟩
 case round =>
  clear S2
  obtain ⟨k,rfl,hk,S⟩ := hrel
  by_cases hlt : k < ac.length
  · obtain ⟨b,off,x,hAe,hb,hx,e0,e1,e2⟩ := AcsAt.at (HA.out.ac.below AcE.stays S.out.below) hlt
    dsimp only at hAe
    subst hAe
    have hbd := HBD.out x (List.mem_of_getElem? hx)
    have hev := HEV.out k x hx
    obtain ⟨be,hbe⟩ : ∃ g,g = wr.heap.size := ⟨_,rfl⟩
    clear hx hb
    go_upto_region 14 with fail
    rw [← hbe]
    refine wp_world (fun W => Sep w.heap.size w [eBlk be 44 [.int .i64 x.ev,.int .i64 x.lo,.int .i64 x.up],eBlk ab 34 [.slice A1 al.length c1,.int .i64 n,.slice A2 mr.length c2,.slice A3 ed.length c3],eBlk mb 37 [.slice A1 al.length c1,.int .i64 n,.slice A2 mr.length c2,.slice A3 ed.length c3,.slice (some ⟨b,off,none⟩) ac.length d,.int .i64 tk]] W) (S.out.alloc' _ [_,_,_] rfl hbe) fun W S' => ?_
    have S3 := Lib.hid S'
    clear S' S hbe e0 e1 e2
    obtain ⟨b1,off1,y,hA1,_,hy,cy⟩ := IntsAt.at (HA.out.a.al.below IntE.stays S3.out.below) (List.getElem?_eq_some_iff.1 hev).1
    dsimp only at hA1
    subst hA1
    dsimp only at hy
    rw [hev] at hy; cases hy
    have hkl : (k : Int) < (al.length : Int) := by rw [← HLL.out]; omega
    have hkn : k < al.length := by rw [← HLL.out]; omega
    clear hev
    have z0 := BlkAt.cell (S3.out.get 0 rfl) 0; have z1 := BlkAt.cell (S3.out.get 0 rfl) 1; have z2 := BlkAt.cell (S3.out.get 0 rfl) 2; simp only [List.getElem?_cons_succ,List.getElem?_cons_zero] at z0 z1 z2
    have a0 := BlkAt.cell (S3.out.get 1 rfl) 0; simp only [List.getElem?_cons_succ,List.getElem?_cons_zero] at a0
    have hd3 : (x.ev != x.ev) = false := by simp
    have hd4 : decide (x.lo < 0) = false := decide_eq_false (by omega)
    have hd5 : decide (16 < x.lo) = false := decide_eq_false (by omega)
    go_quiet (fail)
    by_cases hu : x.up = -1
    · have hd6 : (x.up != -1) = false := by simp [hu]
      go_wp2_with fail
      go_roundw
      case rel => exact ⟨k + 1,by go_num,by omega,S3.out.drop1.draws _⟩
      case measure => simp [intOf]; omega
    · have hd6 : (x.up != -1) = true := by simp [hu]
      have hd7 : decide (x.up < x.lo) = false := decide_eq_false (by omega)
      have hd8 : decide (16 < x.up) = false := decide_eq_false (by omega)
      go_wp2_with fail
      go_roundw
      case rel => exact ⟨k + 1,by go_num,by omega,S3.out.drop1.draws _⟩
      case measure => simp [intOf]; omega
  · obtain rfl : k = ac.length := by omega
    go_wp2_with fail
    go_ret
    exact ⟨rfl,S.out.below⟩
theorem cells8 : Tryz.prog.cellsOf 88 = 1 := by kernel_rfl
theorem items8 (d : Nat) {xs ys : List Int} (hx : xs.length = 32) (hy : ys.length = 32) (w : World) : ∀ is : List Nat,(∀ i,i ∈ is → i < 32) →
 (Op.eqItems (d + 1) 88 (Tryz.prog.cellsOf 88) (xs.map (.int .i8)).toArray (ys.map (.int .i8)).toArray is).run Tryz.prog w = .ok (decide (∀ i,i ∈ is → xs[i]? = ys[i]?)) w
 | [],_ => by simp [Op.eqItems]
 | i :: is,h => by
   have hi := h i (by simp)
   obtain ⟨x,hxi⟩ : ∃ x,xs[i]? = some x := ⟨_,List.getElem?_eq_getElem (by omega)⟩
   obtain ⟨y,hyi⟩ : ∃ y,ys[i]? = some y := ⟨_,List.getElem?_eq_getElem (by omega)⟩
   have p1 : (part 88 (xs.map (.int .i8)).toArray (i * 1)).run Tryz.prog w = .ok (.int .i8 x) w := run_part_plain w (by kernel_rfl) (by simp [hxi])
   have p2 : (part 88 (ys.map (.int .i8)).toArray (i * 1)).run Tryz.prog w = .ok (.int .i8 y) w := run_part_plain w (by kernel_rfl) (by simp [hyi])
   have p3 := run_equalIn_int (P := Tryz.prog) w d 88 .i8 .i8 x y Tryz.underlying88
   have ih := items8 d hx hy w is (fun j hj => h j (by simp [hj]))
   rw [cells8] at ih
   rw [cells8]
   simp only [Op.eqItems,Sem.run_bind,p1,p2,p3,Result.andThen_ok]
   by_cases e : x = y
   · subst e
     simp [ih,hxi,hyi]
   · have : (x == y) = false := by simp [e]
     rw [this]
     simp [hxi,hyi,e]
theorem part_ckT {s : Int} {t : List Int} (ht : t.length ≤ 32) (w : World) : (part 89 (ckC (s,t)).toArray 1).run Tryz.prog w = .ok (.agg (ckT t).toArray) w := by
 unfold ckC
 dsimp only
 obtain ⟨z0,z1,z2,z3,z4,z5,z6,z7,z8,z9,z10,z11,z12,z13,z14,z15,z16,z17,z18,z19,z20,z21,z22,z23,z24,z25,z26,z27,z28,z29,z30,z31,e⟩ := len32 (ckT_len ht)
 simp only [e]
 kernel_rfl
theorem ck_und : Tryz.prog.underlying 91 = some (.struct (Tryz.prog.fieldsOf 91)) := by kernel_rfl
theorem ck_stood : Tryz.prog.stoodInHeld 91 = false := by kernel_rfl
theorem ck_fields : ∃ f0 f1 : Field, (Tryz.prog.fieldsOf 91).toList = [f0, f1] ∧ (f0.name ≠ "_" ∧ f0.type = 3 ∧ f0.offset = 0) ∧ f1.name ≠ "_" ∧ f1.type = 89 ∧ f1.offset = 1 :=
 ⟨(Tryz.prog.fieldsOf 91)[0]!,(Tryz.prog.fieldsOf 91)[1]!,by kernel_rfl,⟨of_decide_eq_true (by kernel_rfl),by kernel_rfl,by kernel_rfl⟩,of_decide_eq_true (by kernel_rfl),by kernel_rfl,by kernel_rfl⟩
theorem eq_timers {d : Nat} {t u : List Int} (ht : t.length ≤ 32) (hu : u.length ≤ 32) (w : World) : (Op.equalIn (d + 2) 89 (.agg (ckT t).toArray) (.agg (ckT u).toArray)).run Tryz.prog w = .ok (decide (pad32 t = pad32 u)) w := by
 obtain ⟨i8,hi8⟩ := info_of_underlying (P := Tryz.prog) Tryz.underlying88
 rw [run_equalIn_array w (d + 1) (ckT t).toArray (ckT u).toArray Tryz.underlying89 hi8]
 have := items8 d (pad32_len ht) (pad32_len hu) w (List.range 32) (fun i hi => List.mem_range.1 hi)
 refine this.trans ?_
 congr 1
 rw [decide_eq_decide]
 constructor
 · intro h
   exact list_eq_of (pad32_len ht) (pad32_len hu) fun i hi => h i (List.mem_range.2 hi)
 · intro h i _
   rw [h]
theorem eqFields2 {P : Program} {d : Nat} {xs ys : Array Value} {f0 f1 : Field} {a b a' b' : Value} {r r' : Bool} {w : World} (n0 : f0.name ≠ "_") (n1 : f1.name ≠ "_") (p1 : (part f0.type xs f0.offset).run P w = .ok a w) (p2 : (part f0.type ys f0.offset).run P w = .ok b w) (p3 : (Op.equalIn d f0.type a b).run P w = .ok r w)
 (p4 : (part f1.type xs f1.offset).run P w = .ok a' w) (p5 : (part f1.type ys f1.offset).run P w = .ok b' w) (p6 : (Op.equalIn d f1.type a' b').run P w = .ok r' w) : (Op.eqFields d xs ys [f0,f1]).run P w = .ok (r && r') w := by
 simp only [Op.eqFields,n0,n1,ne_eq,not_false_eq_true,if_true,Sem.run_bind,p1,p2,p3,Result.andThen_ok]
 cases r
 · simp
 · cases r' <;> simp [p4,p5,p6]
theorem eq_ckD {d : Nat} (s s' : Int) {t u : List Int} (ht : t.length ≤ 32) (hu : u.length ≤ 32) (w : World) : (Op.equalIn (d + 3) 91 (.agg (ckC (s,t)).toArray) (.agg (ckC (s',u)).toArray)).run Tryz.prog w = .ok (decide (s = s' ∧ pad32 t = pad32 u)) w := by
 obtain ⟨f0,f1,hfs,⟨n0,t0,o0⟩,n1,t1,o1⟩ := ck_fields
 rw [run_equalIn_struct w (d + 2) 91 _ _ ck_und ck_stood,hfs]
 have p1 : (part 3 (ckC (s,t)).toArray 0).run Tryz.prog w = .ok (.int .i64 s) w := run_part_plain w (by kernel_rfl) (by simp [ckC])
 have p2 : (part 3 (ckC (s',u)).toArray 0).run Tryz.prog w = .ok (.int .i64 s') w := run_part_plain w (by kernel_rfl) (by simp [ckC])
 have p3 := run_equalIn_int (P := Tryz.prog) w (d + 1) 3 .i64 .i64 s s' Tryz.underlying3
 have p4 : (part 89 (ckC (s,t)).toArray 1).run Tryz.prog w = .ok (.agg (ckT t).toArray) w := part_ckT ht w
 have p5 : (part 89 (ckC (s',u)).toArray 1).run Tryz.prog w = .ok (.agg (ckT u).toArray) w := part_ckT hu w
 have p6 := eq_timers (d := d) ht hu w
 rw [← t0,← o0] at p1 p2
 rw [← t1,← o1] at p4 p5
 rw [← t0] at p3
 rw [← t1] at p6
 rw [eqFields2 n0 n1 p1 p2 p3 p4 p5 p6]
 congr 1
 by_cases e : s = s' <;> simp [e]
theorem eq_ck (s s' : Int) {t u : List Int} (ht : t.length ≤ 32) (hu : u.length ≤ 32) (w : World) : (Op.equal 91 (.agg (ckC (s,t)).toArray) (.agg (ckC (s',u)).toArray)).run Tryz.prog w = .ok (decide (s = s' ∧ pad32 t = pad32 u)) w := by
 obtain ⟨d,hd⟩ : ∃ d,Op.maxDepth = d + 3 := ⟨9997,rfl⟩
 unfold Op.equal
 rw [hd]
 exact eq_ckD s s' ht hu w
abbrev CkK (K : Nat) := { c : Ck // c.2.length = K }
def keyC {K : Nat} (c : CkK K) : Value := .agg (ckC c.1).toArray
theorem okC {K : Nat} (hK : K ≤ 32) : KeyG Tryz.prog 91 (.struct (Tryz.prog.fieldsOf 91)) (keyC (K := K)) := ⟨by kernel_rfl,fun x y w => by
 obtain ⟨⟨s,t⟩,ht⟩ := x
 obtain ⟨⟨s',u⟩,hu⟩ := y
 dsimp only at ht hu
 unfold keyC
 rw [eq_ck s s' (by omega) (by omega) w]
 congr 1
 rw [decide_eq_decide]
 constructor
 · rintro ⟨rfl,h⟩
   have := pad32_inj (by omega) h
   subst this; rfl
 · intro h
   have := congrArg Subtype.val h
   simp only [Prod.mk.injEq] at this
   exact ⟨this.1,by rw [this.2]⟩,fun em x w => by
 obtain ⟨⟨s,t⟩,ht⟩ := x
 dsimp only at ht
 unfold keyC ckC
 obtain ⟨z0,z1,z2,z3,z4,z5,z6,z7,z8,z9,z10,z11,z12,z13,z14,z15,z16,z17,z18,z19,z20,z21,z22,z23,z24,z25,z26,z27,z28,z29,z30,z31,e⟩ := len32 (pad32_len (t := t) (by omega))
 unfold ckT
 simp only [e]
 cases em <;> kernel_rfl,fun x w => by
 obtain ⟨⟨s,t⟩,ht⟩ := x
 dsimp only at ht
 unfold keyC ckC
 obtain ⟨z0,z1,z2,z3,z4,z5,z6,z7,z8,z9,z10,z11,z12,z13,z14,z15,z16,z17,z18,z19,z20,z21,z22,z23,z24,z25,z26,z27,z28,z29,z30,z31,e⟩ := len32 (pad32_len (t := t) (by omega))
 unfold ckT
 simp only [e]
 simp [Instr.keyThatStays,Instr.sameBits],.inl fun _ _ => rfl,fun x y h => by
 unfold keyC at h
 have h2 : ckC x.1 = ckC y.1 := by injection h with h; simpa using congrArg Array.toList h
 exact Subtype.ext (ckC_inj (by rw [x.2,y.2]) h2)⟩
def encC (c : Ck) : List Value := (ckC c).take 33
theorem encC_len (c : Ck) : (encC c).length = 33 := by simp [encC,ckC,ckT,pad32]; omega
theorem encC_eq {c : Ck} (h : c.2.length ≤ 32) : encC c = ckC c := by unfold encC; rw [List.take_of_length_le]; rw [ckC_len h]; exact Nat.le_refl _
theorem encC_cell (c : Ck) : ∀ v ∈ encC c,v.oneCell' = true := fun v hv => ckC_cell c v (List.mem_of_mem_take hv)
abbrev eCks (l : List Ck) (v : Value) : Ent := eOwn encC 33 91 l v
abbrev CksAt := SlAt (fun _ (c : Ck) vs => vs = encC c) 33
theorem ckInfo : (Tryz.prog.info? 91).map (fun i => (i.zero,i.size,i.bytes)) = some (some (.agg (ckC (0,[])).toArray),33,40) := by kernel_rfl
theorem CksAt.at {w : World} {A : Option Addr} {l : List Ck} (h : CksAt w A l) {k : Nat} {c : Ck} (hk : l[k]? = some c) (hc : c.2.length ≤ 32) : ∃ b off,A = some ⟨b,off,none⟩ ∧ w.rangeAt b (off + k * 33) (ckC c) := by
 obtain ⟨b,off,x,vs,hA,_,hx,_,hv,hcs⟩ := SlAt.at h (List.getElem?_eq_some_iff.1 hk).1
 rw [hk] at hx; cases hx
 subst hv
 refine ⟨b,off,hA,fun j v hj => ?_⟩
 rw [← encC_eq hc] at hj
 exact hcs j v hj
theorem CksAt.range {w : World} {b off : Nat} {l : List Ck} (h : CksAt w (some ⟨b,off,none⟩) l) {k : Nat} {c : Ck} (hk : l[k]? = some c) (hc : c.2.length ≤ 32) : w.rangeAt b (off + k * 33) (ckC c) := by
 obtain ⟨b',off',hA,h2⟩ := CksAt.at h hk hc
 cases hA
 exact h2
section
def stB (m : Md) (i : Nat) (s : List Ck × List Ed) (e : Int) : List Ck × List Ed :=
 match s.1[i]? with
 | none => s
 | some v => match m.eff e v with
   | none => s
   | some t => if t ∈ s.1 then (s.1,s.2 ++ [⟨i,e,((idxK s.1 t : Nat) : Int)⟩]) else (s.1 ++ [t],s.2 ++ [⟨i,e,(s.1.length : Int)⟩])
def rowB (m : Md) (i : Nat) (s : List Ck × List Ed) (l : List Int) : List Ck × List Ed := l.foldl (stB m i) s
def bldB (m : Md) : Nat → List Ck × List Ed
 | 0 => ([m.start],[])
 | i + 1 => rowB m i (bldB m i) m.all
theorem rowB_next (m : Md) (i : Nat) (s : List Ck × List Ed) {l : List Int} {j : Nat} {e : Int} (h : l[j]? = some e) : rowB m i s (l.take (j + 1)) = stB m i (rowB m i s (l.take j)) e := by
 unfold rowB
 rw [List.take_add_one,h,Option.toList_some,List.foldl_append]; rfl
def outE (m : Md) (v : Ck) (l : List Int) : List (Int × Ck) := l.filterMap fun e => (m.eff e v).map fun t => (e,t)
abbrev outF (m : Md) (v : Ck) : List (Int × Ck) := outE m v m.all
section
variable {m : Md}
theorem take_snoc {l : List Int} {j : Nat} {e : Int} (h : l[j]? = some e) : l.take (j + 1) = l.take j ++ [e] := by rw [List.take_add_one,h]; rfl
theorem outE_yes {v t : Ck} {l : List Int} {j : Nat} {e : Int} (h : l[j]? = some e) (he : m.eff e v = some t) : (outE m v (l.take (j + 1))).length = (outE m v (l.take j)).length + 1 := by
 rw [take_snoc h]; unfold outE; rw [List.filterMap_append,List.length_append]; simp [he]
theorem outE_no {v : Ck} {l : List Int} {j : Nat} {e : Int} (h : l[j]? = some e) (he : m.eff e v = none) : (outE m v (l.take (j + 1))).length = (outE m v (l.take j)).length := by
 rw [take_snoc h]; unfold outE; rw [List.filterMap_append,List.length_append]; simp [he]
theorem outE_at {v t : Ck} {l : List Int} {j : Nat} {e : Int} (h : l[j]? = some e) (he : m.eff e v = some t) : (outE m v l)[(outE m v (l.take j)).length]? = some (e,t) := by
 have hlt := (List.getElem?_eq_some_iff.1 h).1
 have e1 : outE m v l = outE m v (l.take j) ++ outE m v (l.drop j) := by unfold outE; rw [← List.filterMap_append,List.take_append_drop]
 have e2 : l.drop j = e :: l.drop (j + 1) := by
  rw [List.drop_eq_getElem_cons hlt]
  rw [(List.getElem?_eq_some_iff.1 h).2]
 rw [e1,List.getElem?_append_right (Nat.le_refl _),Nat.sub_self,e2]
 unfold outE
 simp [he]
theorem all_incr (h : m.Ok) : Rises (fun p q : Int => p < q) m.all := by
 refine rises_unionV (m.a.al.length + 1) m.a.al [m.tk] (by simp) h.a.al.incr ?_
 intro i j x y hij hx hy
 have h1 := (List.getElem?_eq_some_iff.1 hx).1
 have h2 := (List.getElem?_eq_some_iff.1 hy).1
 simp at h1 h2; omega
theorem mem_all {e : Int} : e ∈ m.all ↔ e ∈ m.a.al ∨ e = m.tk := by
 unfold Md.all
 rw [mem_unionV (m.a.al.length + 1) m.a.al [m.tk] (by simp)]
 simp
theorem all_ok (h : m.Ok) : setOk m.all 32 m.all.length := setOk_of (all_incr h) fun x hx => by
 rcases mem_all.1 hx with g | rfl
 · exact al_rg h.a g
 · exact h.tk
theorem all_len (h : m.Ok) : m.all.length ≤ 33 := by
 have h2 : m.a.al.length ≤ 32 := by rw [← h.len]; exact h.len32
 have := mergeV_len orF (m.a.al.length + 1) m.a.al [m.tk] (by simp)
 unfold Md.all unionV
 omega
theorem out_ups (h : m.Ok) (v : Ck) : Ups (outF m v) := by
 have hp := rises_pw (all_incr h)
 have : (outF m v).Pairwise fun x y => x.1 < y.1 := by
  unfold outF outE
  rw [List.pairwise_filterMap]
  refine hp.imp fun {x y} hxy u hu w hw => ?_
  simp only [Option.mem_def,Option.map_eq_some_iff] at hu hw
  obtain ⟨_,_,rfl⟩ := hu
  obtain ⟨_,_,rfl⟩ := hw
  exact hxy
 exact pw_rises this
theorem mem_out {v : Ck} {x : Int × Ck} (h : x ∈ outF m v) : x.1 ∈ m.all ∧ m.eff x.1 v = some x.2 := by
 unfold outF outE at h
 rw [List.mem_filterMap] at h
 obtain ⟨e,he,h2⟩ := h
 rw [Option.map_eq_some_iff] at h2
 obtain ⟨t,h3,rfl⟩ := h2
 exact ⟨he,h3⟩
structure UO (m : Md) (i : Nat) (fs : List Ck) (ed : List Ed) : Prop where
 eq : (fs,ed) = bldB m i
 is : ∀ c,c ∈ fs → m.Is c
 nd : fs.Nodup
 el : ed.length ≤ 33 * i
 il : i ≤ fs.length
 bl : Bld id (outF m) m.start i 0 fs ed
 rd : ∀ k,k < i → k < (bldB m k).1.length
structure UI (m : Md) (i j : Nat) (v : Ck) (fs : List Ck) (ed : List Ed) : Prop where
 eq : (fs,ed) = rowB m i (bldB m i) (m.all.take j)
 is : ∀ c,c ∈ fs → m.Is c
 nd : fs.Nodup
 el : ed.length ≤ 33 * i + j
 at_ : fs[i]? = some v
 bl : Bld id (outF m) m.start i (outE m v (m.all.take j)).length fs ed
 rd : ∀ k,k < i + 1 → k < (bldB m k).1.length
theorem UO.start (hm : m.Ok) (hn : 0 < m.a.n) : UO m 0 [m.start] [] :=
 ⟨rfl,fun c hc => by simp at hc; subst hc; exact Md.Is.start hm hn,by simp,by simp,by simp,Bld.start,fun k hk => absurd hk (by omega)⟩
theorem UO.row {i : Nat} {fs : List Ck} {ed : List Ed} {v : Ck} (h : UO m i fs ed) (hv : fs[i]? = some v) : UI m i 0 v fs ed :=
 ⟨by rw [h.eq]; rfl,h.is,h.nd,by have := h.el; omega,hv,by have := h.bl; simpa [outE] using this,fun k hk => by
  rcases Nat.lt_or_ge k i with g | g
  · exact h.rd k g
  · obtain rfl : k = i := by omega
    rw [← h.eq]
    exact (List.getElem?_eq_some_iff.1 hv).1⟩
theorem UI.none_ {i j : Nat} {fs : List Ck} {ed : List Ed} {v : Ck} {e : Int} (h : UI m i j v fs ed) (he : m.all[j]? = some e) (hn : m.eff e v = none) : UI m i (j + 1) v fs ed :=
 ⟨by rw [rowB_next m i _ he,← h.eq]; simp only [stB,h.at_,hn],h.is,h.nd,by have := h.el; omega,h.at_,by rw [outE_no he hn]; exact h.bl,h.rd⟩
theorem UI.old {i j : Nat} {fs : List Ck} {ed : List Ed} {v t : Ck} {e : Int} (hm : m.Ok) (h : UI m i j v fs ed) (he : m.all[j]? = some e) (hn : m.eff e v = some t) (ht : t ∈ fs) :
 UI m i (j + 1) v fs (ed ++ [⟨i,e,((idxK fs t : Nat) : Int)⟩]) :=
 ⟨by rw [rowB_next m i _ he,← h.eq]; simp only [stB,h.at_,hn,if_pos ht],h.is,h.nd,by rw [List.length_append]; have := h.el; simp only [List.length_singleton]; omega,h.at_,by
  rw [outE_yes he hn]
  exact h.bl.old h.at_ (out_ups hm v) (outE_at he hn) (idxK_get ht) rfl,h.rd⟩
theorem UI.new {i j : Nat} {fs : List Ck} {ed : List Ed} {v t : Ck} {e : Int} (hm : m.Ok) (h : UI m i j v fs ed) (he : m.all[j]? = some e) (hn : m.eff e v = some t) (ht : ¬ t ∈ fs) :
 UI m i (j + 1) v (fs ++ [t]) (ed ++ [⟨i,e,(fs.length : Int)⟩]) := by
 refine ⟨by rw [rowB_next m i _ he,← h.eq]; simp only [stB,h.at_,hn,if_neg ht],fun c hc => ?_,?_,by rw [List.length_append]; have := h.el; simp only [List.length_singleton]; omega,get_keep h.at_ _,?_,h.rd⟩
 · rcases List.mem_append.1 hc with g | g
   · exact h.is c g
   · simp at g; subst g
     exact (h.is v (List.mem_of_getElem? h.at_)).eff hm hn
 · rw [List.nodup_append]
   exact ⟨h.nd,by simp,fun a ha b hb e => by simp at hb; subst hb; subst e; exact ht ha⟩
 · rw [outE_yes he hn]
   exact h.bl.new h.at_ (out_ups hm v) (outE_at he hn) (fun u hu g => by simp only [id] at g; subst g; exact ht hu)
theorem UI.fin {i : Nat} {fs : List Ck} {ed : List Ed} {v : Ck} (hm : m.Ok) (h : UI m i m.all.length v fs ed) : UO m (i + 1) fs ed := by
 have hil := (List.getElem?_eq_some_iff.1 h.at_).1
 refine ⟨by rw [h.eq,List.take_length]; rfl,h.is,h.nd,by have := h.el; have := all_len hm; omega,by omega,?_,h.rd⟩
 have hb := h.bl
 rw [List.take_length] at hb
 exact Bld.next hb h.at_
def Ufd (m : Md) (fs : List Ck) (ed : List Ed) : Prop := UO m fs.length fs ed
theorem Ufd.uniq {fs fs' : List Ck} {ed ed' : List Ed} (h : Ufd m fs ed) (k : Ufd m fs' ed') : fs = fs' ∧ ed = ed' := by
 have e : fs.length = fs'.length := by
  rcases Nat.lt_trichotomy fs.length fs'.length with g | g | g
  · have := k.rd _ g
    rw [← h.eq] at this
    simp only at this; omega
  · exact g
  · have := h.rd _ g
    rw [← k.eq] at this
    simp only at this; omega
 have h1 := h.eq
 have h2 := k.eq
 rw [e,← h2] at h1
 exact ⟨congrArg Prod.fst h1,congrArg Prod.snd h1⟩
def mkF (m : Md) (fs : List Ck) (j : Nat) : Bool := decide ((fs.getD j (0,[])).1 ∈ m.a.mr)
theorem mkF_push (m : Md) (fs : List Ck) (t : Ck) {k : Nat} (h : k ≤ fs.length) : mkV (mkF m (fs ++ [t])) k = mkV (mkF m fs) k := by
 unfold mkV
 congr 1
 refine List.filter_congr fun j hj => ?_
 have : j < fs.length := by have := List.mem_range.1 hj; omega
 simp only [mkF,List.getD_eq_getElem?_getD,List.getElem?_append_left this]
theorem mkF_at {fs : List Ck} {i : Nat} {v : Ck} (h : fs[i]? = some v) : mkF m fs i = decide (v.1 ∈ m.a.mr) := by
 simp only [mkF,List.getD_eq_getElem?_getD,h,Option.getD_some]
def tAu (m : Md) (fs : List Ck) (ed : List Ed) : Au := ⟨m.all,fs.length,mkV (mkF m fs) fs.length,ed⟩
theorem Ufd.right (hm : m.Ok) {fs : List Ck} {ed : List Ed} (h : Ufd m fs ed) (hl : fs.length ≤ 4096) : (tAu m fs ed).Right :=
 (h.bl.built (Nat.le_refl _) m.all (mkV (mkF m fs) fs.length) (all_ok hm) hl (mkV_ok _ _) (fun v _ x hx => (mem_out hx).1) (fun v _ => out_ups hm v)).rt
def Few (m : Md) : Prop := ∀ fs : List Ck,fs.Nodup → (∀ c,c ∈ fs → m.Is c) → fs.length ≤ 4000
end
end
structure Sp where
 lo : Int
 hi : Int
 en : Bool
 deriving DecidableEq
def jn (o : Option Sp) (s : Sp) : Sp := match o with
 | none => s
 | some t => ⟨min t.lo s.lo,max t.hi s.hi,t.en || s.en⟩
abbrev SpF := Ck → Option Sp
def jnF (F : SpF) (x : Ck × Sp) : SpF := fun u => if u = x.1 then some (jn (F u) x.2) else F u
theorem jn_comm (o : Option Sp) (x y : Sp) : jn (some (jn o x)) y = jn (some (jn o y)) x := by
 cases o with
 | none => simp only [jn,Sp.mk.injEq]; exact ⟨by omega,by omega,Bool.or_comm _ _⟩
 | some t => simp only [jn,Sp.mk.injEq]; exact ⟨by omega,by omega,by cases t.en <;> cases x.en <;> cases y.en <;> rfl⟩
theorem jnF_comm (F : SpF) (x y : Ck × Sp) : jnF (jnF F x) y = jnF (jnF F y) x := by
 funext u
 unfold jnF
 by_cases h1 : u = x.1
 · by_cases h2 : u = y.1
   · simp only [if_pos h1,if_pos h2,Option.some.injEq]
     exact jn_comm _ _ _
   · simp only [if_pos h1,if_neg h2]
 · by_cases h2 : u = y.1
   · simp only [if_neg h1,if_pos h2]
   · simp only [if_neg h1,if_neg h2]
theorem jnF_perm {L L' : List (Ck × Sp)} (h : L.Perm L') (F : SpF) : L.foldl jnF F = L'.foldl jnF F :=
 h.foldl_eq' (fun x _ y _ z => jnF_comm z x y) F
def insS (E : List (Ck × Sp)) (x : Ck × Sp) : List (Ck × Sp) := if x.1 ∈ E.map Prod.fst then E.map fun e => if e.1 = x.1 then (e.1,jn (some e.2) x.2) else e else E ++ [x]
def lkS (E : List (Ck × Sp)) : SpF := fun u => (E.find? fun e => decide (e.1 = u)).map Prod.snd
theorem lkS_none {E : List (Ck × Sp)} {u : Ck} (h : ¬ u ∈ E.map Prod.fst) : lkS E u = none := by
 unfold lkS
 rw [Option.map_eq_none_iff,List.find?_eq_none]
 intro e he g
 exact h (List.mem_map.2 ⟨e,he,of_decide_eq_true g⟩)
theorem lkS_map (E : List (Ck × Sp)) (g : Ck × Sp → Sp) (u : Ck) : lkS (E.map fun e => (e.1,g e)) u = (E.find? fun e => decide (e.1 = u)).map g := by
 unfold lkS
 induction E with
 | nil => rfl
 | cons e E ih =>
   simp only [List.map_cons,List.find?_cons]
   by_cases h : e.1 = u
   · simp [h]
   · simpa [h] using ih
theorem insS_lk (E : List (Ck × Sp)) (x : Ck × Sp) : lkS (insS E x) = jnF (lkS E) x := by
 funext u
 unfold insS jnF
 by_cases hx : x.1 ∈ E.map Prod.fst
 · rw [if_pos hx]
   have e : (E.map fun e => if e.1 = x.1 then (e.1,jn (some e.2) x.2) else e) = E.map fun e => (e.1,if e.1 = x.1 then jn (some e.2) x.2 else e.2) := by
    refine List.map_congr_left fun e _ => ?_
    by_cases h : e.1 = x.1 <;> simp [h]
   rw [e,lkS_map]
   by_cases hu : u = x.1
   · subst hu
     rw [if_pos rfl]
     unfold lkS
     cases hf : E.find? fun e => decide (e.1 = x.1) with
     | none =>
       obtain ⟨e,he,h2⟩ := List.mem_map.1 hx
       exact absurd (List.find?_eq_none.1 hf e he) (by simp [h2])
     | some e =>
       have := List.find?_some hf
       simp only [decide_eq_true_eq] at this
       simp [this]
   · rw [if_neg hu]
     unfold lkS
     cases hf : E.find? fun e => decide (e.1 = u) with
     | none => rfl
     | some e =>
       have := List.find?_some hf
       simp only [decide_eq_true_eq] at this
       have : ¬ e.1 = x.1 := fun g => hu (by rw [← this,g])
       simp [this]
 · rw [if_neg hx]
   have h0 := lkS_none hx
   by_cases hu : u = x.1
   · subst hu
     rw [if_pos rfl,h0]
     unfold lkS at h0 ⊢
     rw [Option.map_eq_none_iff] at h0
     simp [List.find?_append,h0,jn]
   · rw [if_neg hu]
     have : ¬ x.1 = u := fun g => hu g.symm
     unfold lkS
     simp [List.find?_append,this]
theorem insS_nd {E : List (Ck × Sp)} (h : (E.map Prod.fst).Nodup) (x : Ck × Sp) : ((insS E x).map Prod.fst).Nodup := by
 unfold insS
 by_cases hx : x.1 ∈ E.map Prod.fst
 · rw [if_pos hx,List.map_map]
   have e : (Prod.fst ∘ fun e : Ck × Sp => if e.1 = x.1 then (e.1,jn (some e.2) x.2) else e) = Prod.fst := by
    funext e
    simp only [Function.comp]
    split <;> rfl
   rw [e]; exact h
 · rw [if_neg hx,List.map_append,List.nodup_append]
   exact ⟨h,by simp,fun a ha b hb e => by simp at hb; subst hb; subst e; exact hx ha⟩
def insL (L : List (Ck × Sp)) : List (Ck × Sp) := L.foldl insS []
theorem insL_aux (L E : List (Ck × Sp)) : lkS (L.foldl insS E) = L.foldl jnF (lkS E) := by
 induction L generalizing E with
 | nil => rfl
 | cons x L ih => rw [List.foldl_cons,List.foldl_cons,ih,insS_lk]
theorem insL_lk (L : List (Ck × Sp)) : lkS (insL L) = L.foldl jnF (fun _ => none) := insL_aux L []
theorem insL_nd (L : List (Ck × Sp)) : ((insL L).map Prod.fst).Nodup := by
 unfold insL
 have : ∀ E : List (Ck × Sp),(E.map Prod.fst).Nodup → ((L.foldl insS E).map Prod.fst).Nodup := by
  induction L with
  | nil => exact fun E h => h
  | cons x L ih => exact fun E h => ih _ (insS_nd h x)
 exact this [] (by simp)
theorem lkS_mem {E : List (Ck × Sp)} (h : (E.map Prod.fst).Nodup) {u : Ck} {s : Sp} : lkS E u = some s ↔ (u,s) ∈ E := by
 induction E with
 | nil => simp [lkS]
 | cons e E ih =>
   rw [List.map_cons,List.nodup_cons] at h
   have ih := ih h.2
   unfold lkS at ih ⊢
   rw [List.find?_cons]
   by_cases g : e.1 = u
   · simp only [g,decide_true,Option.map_some,Option.some.injEq,List.mem_cons]
     constructor
     · intro h2; left; rw [← g,← h2]
     · rintro (h2 | h2)
       · rw [← h2]
       · exact absurd (List.mem_map.2 ⟨_,h2,rfl⟩) (by rw [← g] at *; exact h.1)
   · simp only [g,decide_false,List.mem_cons]
     rw [ih]
     constructor
     · exact .inr
     · rintro (h2 | h2)
       · exact absurd (by rw [← h2]) g
       · exact h2
theorem perm_of_done {E D : List (Ck × Sp)} (h : (E.map Prod.fst).Nodup) (k : (D.map Prod.fst).Nodup) (hm : ∀ u s,(u,s) ∈ D ↔ lkS E u = some s) : D.Perm E := by
 have nd : ∀ {L : List (Ck × Sp)},(L.map Prod.fst).Nodup → L.Nodup := fun {L} h => by
  rw [List.nodup_iff_pairwise_ne] at h ⊢
  rw [List.pairwise_map] at h
  exact h.imp fun {a b} g e => g (by rw [e])
 rw [List.perm_ext_iff_of_nodup (nd k) (nd h)]
 rintro ⟨u,s⟩
 rw [hm,lkS_mem h]
def tks (m : Md) : Nat → List Ck → Ck → List Ck × Option Nat
 | 0,ls,_ => (ls,none)
 | k + 1,ls,c => if c ∈ ls then (ls,some (idxK ls c)) else match m.tick c with
   | none => (ls ++ [c],none)
   | some d => tks m k (ls ++ [c]) d
def cnX (m : Md) (i : Nat) (s : Sp) (b : Bool) (ls : List Ck) (k : Nat) : List (Ck × Sp) := match ls[k]? with
 | none => []
 | some c => match m.act c i with
   | none => []
   | some t => [(t,⟨s.lo + k,s.hi + k,b⟩)]
def cnR (m : Md) (i : Nat) (s : Sp) (b : Bool) (ls : List Ck) (j k : Nat) : List (Ck × Sp) := (List.range k).flatMap fun t => cnX m i s b ls (j + t)
def fuelT : Nat := 4001
def conV (m : Md) (i : Nat) (x : Ck × Sp) : List (Ck × Sp) :=
 cnR m i x.2 x.2.en (tks m fuelT [] x.1).1 0 (tks m fuelT [] x.1).1.length ++ match (tks m fuelT [] x.1).2 with
  | none => []
  | some j => cnR m i x.2 true (tks m fuelT [] x.1).1 j ((tks m fuelT [] x.1).1.length - j)
theorem cnR_next {m : Md} {i : Nat} {s : Sp} {b : Bool} {ls : List Ck} {j k : Nat} : cnR m i s b ls j (k + 1) = cnR m i s b ls j k ++ cnX m i s b ls (j + k) := by
 unfold cnR; rw [List.range_succ,List.flatMap_append]; simp
theorem cnX_no {m : Md} {i : Nat} {s : Sp} {b : Bool} {ls : List Ck} {k : Nat} {c : Ck} (h : ls[k]? = some c) (ha : m.act c i = none) : cnX m i s b ls k = [] := by unfold cnX; rw [h]; simp only [ha]
theorem cnX_yes {m : Md} {i : Nat} {s : Sp} {b : Bool} {ls : List Ck} {k : Nat} {c t : Ck} (h : ls[k]? = some c) (ha : m.act c i = some t) : cnX m i s b ls k = [(t,⟨s.lo + k,s.hi + k,b⟩)] := by unfold cnX; rw [h]; simp only [ha]
theorem cnR_grow {m : Md} {i : Nat} {s : Sp} {b : Bool} {ls : List Ck} (r : List Ck) {j k : Nat} (h : j + k ≤ ls.length) : cnR m i s b (ls ++ r) j k = cnR m i s b ls j k := by
 unfold cnR
 have e : ∀ t,t ∈ List.range k → cnX m i s b (ls ++ r) (j + t) = cnX m i s b ls (j + t) := fun t ht => by
  have := List.mem_range.1 ht
  unfold cnX
  rw [List.getElem?_append_left (by omega)]
 rw [List.flatMap_def,List.flatMap_def,List.map_congr_left e]
def nxtV (m : Md) (i : Nat) (E : List (Ck × Sp)) : List (Ck × Sp) := insL (E.flatMap (conV m i))
def nowV (m : Md) (w : List Int) (k : Nat) : List (Ck × Sp) := (w.take k).foldl (fun E e => nxtV m (m.idx e) E) [(m.start,⟨0,0,false⟩)]
theorem nowV_next {m : Md} {w : List Int} {k : Nat} {e : Int} (h : w[k]? = some e) : nowV m w (k + 1) = nxtV m (m.idx e) (nowV m w k) := by
 unfold nowV; rw [List.take_add_one,h,Option.toList_some,List.foldl_append]; rfl
theorem nowV_nd (m : Md) (w : List Int) (k : Nat) : ((nowV m w k).map Prod.fst).Nodup := by
 unfold nowV
 rcases List.eq_nil_or_concat (w.take k) with h | ⟨l,e,h⟩
 · rw [h]; simp
 · rw [h,List.concat_eq_append,List.foldl_append]; exact insL_nd _
def allSp (L : List (Ck × Sp)) : Option Sp := L.foldl (fun o x => some (jn o x.2)) none
theorem allSp_perm {L L' : List (Ck × Sp)} (h : L.Perm L') : allSp L = allSp L' := h.foldl_eq' (fun x _ y _ z => by rw [jn_comm]) none
def durV (m : Md) (w : List Int) : Int × Int × Bool := match allSp (nowV m w w.length) with
 | none => (0,0,false)
 | some s => (s.lo,if s.en then -1 else s.hi,true)
section
section
variable {κ β : Type} [DecidableEq κ]
structure MpR (key : κ → Value) (ve : β → Value) (w : World) (b : Nat) (l : List (κ × β × Nat)) (clock : Nat) : Prop where
 at_ : w.heap[b]? = some (.map (l.map (entryG key ve)).toArray clock)
 nd : (l.map (·.1)).Nodup
 bn : (l.map (·.2.2)).Nodup
 lt : ∀ e,e ∈ l → e.2.2 < clock
def MapR (key : κ → Value) (ve : β → Value) (w : World) (b : Nat) (f : κ → Option β) : Prop := ∃ l clock,MpR key ve w b l clock ∧ ∀ x,f x = valG l x
variable {key : κ → Value} {ve : β → Value} {w : World} {b : Nat} {f : κ → Option β}
theorem MapR.g (h : MapR key ve w b f) : MapG key ve w b f := by
 obtain ⟨l,k,h1,h2⟩ := h
 exact ⟨l,k,h1.at_,h2⟩
theorem MapR.made (key : κ → Value) (ve : β → Value) (w : World) : MapR key ve (w.alloc (.map #[] 0)) w.heap.size (fun _ => none) := ⟨[],0,⟨(MapKept.heap_alloc w _).1,by simp,by simp,by simp⟩,fun _ => rfl⟩
theorem MapR.congr {g : κ → Option β} (h : MapR key ve w b f) (hg : ∀ x,g x = f x) : MapR key ve w b g := by
 obtain ⟨l,k,h1,h2⟩ := h
 exact ⟨l,k,h1,fun x => (hg x).trans (h2 x)⟩
def eMapR (key : κ → Value) (ve : β → Value) (b : Nat) (f : κ → Option β) : Ent where
 foot := [b]
 ok w := MapR key ve w b f
 lt w h k hk := by simp at hk; subst hk; exact h.g.lt
 turn w w' h hg := by
  obtain ⟨l,c,h1,h2⟩ := h
  exact ⟨l,c,⟨(hg b (by simp)).trans h1.at_,h1.nd,h1.bn,h1.lt⟩,h2⟩
theorem valG_mem {l : List (κ × β × Nat)} (hn : (l.map (·.1)).Nodup) {e : κ × β × Nat} (he : e ∈ l) : valG l e.1 = some e.2.1 := by
 induction l with
 | nil => cases he
 | cons a l ih =>
   rw [List.map_cons,List.nodup_cons] at hn
   unfold valG at ih ⊢
   rw [List.find?_cons]
   rcases List.mem_cons.1 he with rfl | he
   · simp
   · have : ¬ a.1 = e.1 := fun g => hn.1 (List.mem_map.2 ⟨e,he,g.symm⟩)
     simp only [this,decide_false]
     exact ih hn.2 he
theorem valG_get {l : List (κ × β × Nat)} {x : κ} {v : β} (h : valG l x = some v) : ∃ e,e ∈ l ∧ e.1 = x ∧ e.2.1 = v := by
 unfold valG at h
 rw [Option.map_eq_some_iff] at h
 obtain ⟨e,he,h2⟩ := h
 exact ⟨e,List.mem_of_find?_eq_some he,by simpa using List.find?_some he,h2⟩
theorem set_same {α : Type} {l : List α} {j : Nat} {a : α} (h : l[j]? = some a) : l.set j a = l := by
 apply List.ext_getElem?
 intro i
 rw [List.getElem?_set]
 by_cases e : j = i
 · subst e
   rw [if_pos rfl,h,if_pos (List.getElem?_eq_some_iff.1 h).1]
 · rw [if_neg e]
theorem MapR.store {P : Program} {M T E : TypeId} {D : TypeDesc} (K : KeyG P T D key) (hM : P.underlying M = some (.map T E)) (h : MapR key ve w b f) (x : κ) (v : β) :
 ∃ w',(Instr.mapUpdate M (.map (some b)) (key x) (ve v)).run P w = .ok () w' ∧ MapR key ve w' b (fun y => if y = x then some v else f y) ∧ w.grownBy w' (some b) := by
 obtain ⟨l,clk,⟨hb,nd,bn,hlt⟩,hf⟩ := h
 have hk := findKeyG_run (ve := ve) K x w l
 cases hj : l.findIdx? (fun e => decide (e.1 = x)) with
 | none =>
   rw [hj] at hk
   simp only [Option.bind_none] at hk
   have hno : ∀ e,e ∈ l → ¬ e.1 = x := fun e he => by simpa using List.findIdx?_eq_none_iff.1 hj e he
   refine ⟨ChangeMaps.setBlock w b (.map ((l ++ [(x,v,clk)]).map (entryG key ve)).toArray (clk + 1)),?_,⟨l ++ [(x,v,clk)],clk + 1,⟨ChangeMaps.heap_setBlock_same hb _,?_,?_,?_⟩,fun y => by rw [findG_push hj]; simp only [hf]⟩,
    ⟨rfl,rfl,rfl,by simp [ChangeMaps.setBlock],fun i _ hi => ChangeMaps.heap_setBlock_other hb _ (fun e => hi (by rw [e]))⟩⟩
   · simp [Instr.mapUpdate,run_underlying hM,MapKept.run_getObj_map hb,K.chk,hk,MapKept.run_setObj_map _ hb,Result.andThen,ChangeMaps.setBlock,entryG]
   · rw [List.map_append,List.nodup_append]
     refine ⟨nd,by simp,fun a ha c hc e => ?_⟩
     simp at hc; subst hc; subst e
     obtain ⟨e,he,h1⟩ := List.mem_map.1 ha
     exact hno e he h1
   · rw [List.map_append,List.nodup_append]
     refine ⟨bn,by simp,fun a ha c hc e => ?_⟩
     simp at hc; subst hc; subst e
     obtain ⟨e,he,h1⟩ := List.mem_map.1 ha
     have := hlt e he
     omega
   · intro e he
     rcases List.mem_append.1 he with g | g
     · have := hlt e g; omega
     · simp at g; subst g; simp
 | some j =>
   obtain ⟨e,he,h1,h2,h3⟩ := valG_some hj
   rw [hj] at hk
   simp only [Option.bind_some,he,Option.map_some] at hk
   have e1 : (l.set j (e.1,v,e.2.2)).map (·.1) = l.map (·.1) := by
    rw [List.map_set]
    exact set_same (by simp [he])
   have e2 : (l.set j (e.1,v,e.2.2)).map (·.2.2) = l.map (·.2.2) := by
    rw [List.map_set]
    exact set_same (by simp [he])
   refine ⟨ChangeMaps.setBlock w b (.map ((l.set j (e.1,v,e.2.2)).map (entryG key ve)).toArray clk),?_,⟨l.set j (e.1,v,e.2.2),clk,⟨ChangeMaps.heap_setBlock_same hb _,by rw [e1]; exact nd,by rw [e2]; exact bn,?_⟩,fun y => by rw [findG_modify hj he]; simp only [hf]⟩,
    ⟨rfl,rfl,rfl,by simp [ChangeMaps.setBlock],fun i _ hi => ChangeMaps.heap_setBlock_other hb _ (fun e => hi (by rw [e]))⟩⟩
   · have hm : (l.map (entryG key ve)).modify j (fun e' => { key := key x,val := ve v,born := e'.born }) = (l.set j (x,v,e.2.2)).map (entryG key ve) := by
      apply List.ext_getElem?
      intro i
      rw [List.getElem?_modify]
      simp only [List.getElem?_map,List.getElem?_set]
      by_cases hij : j = i
      · subst hij
        rw [he]
        simp [h3,entryG]
      · simp [hij]
     simp [Instr.mapUpdate,run_underlying hM,MapKept.run_getObj_map hb,K.chk,hk,he,entryG,h1,K.stay,MapKept.run_setObj_map _ hb,Result.andThen,ChangeMaps.setBlock]
     exact congrArg (fun q => w.heap.setIfInBounds b (Obj.map (List.toArray q) clk)) (by rw [hm,List.map_set]; rfl)
   · intro e' he'
     rcases List.mem_or_eq_of_mem_set he' with g | g
     · exact hlt e' g
     · subst g; exact hlt e (List.mem_of_getElem? he)
theorem MapR.len {P : Program} {M T E : TypeId} (hM : P.underlying M = some (.map T E)) (h : MapR key ve w b f) : ∃ n : Nat,(∀ ty,(Builtin.len_ #[M] ty #[.map (some b)]).run P w = .ok (.int .i64 n) w) ∧ (n = 0 ↔ ∀ x,f x = none) := by
 obtain ⟨l,k,h1,h2⟩ := h
 refine ⟨l.length,fun ty => ?_,fun h x => ?_,fun h => ?_⟩
 · have := run_len_map (P := P) (w := w) M ty b _ k (by simp [Program.mapKeyOf,Program.mapElemOf,hM]) h1.at_
   rw [this]
   simp [goInt]
 · rw [h2,List.length_eq_zero_iff.1 h]; rfl
 · cases l with
   | nil => rfl
   | cons e l =>
     have := h e.1
     rw [h2,valG_mem h1.nd List.mem_cons_self] at this
     cases this
variable {n : Nat} {w0 w' : World} {es : List Ent}
theorem Sep.allocMapR (S : Sep n w0 es w) (key : κ → Value) (ve : β → Value) {g : Nat} (hg : g = w.heap.size) : Sep n w0 (eMapR key ve g (fun _ => none) :: es) (w.alloc (.map #[] 0)) := by
 subst hg
 exact S.new1 (Below.new w _) (eMapR key ve w.heap.size (fun _ => none)) (MapR.made key ve w) (by simp [eMapR])
theorem wpList_mapUpdateR {P : Program} {ops : Array Oper} {rest : List Oper} {o : Oper} {a : Act} {Q : Exit → Act → World → Prop}
 (hg : o.guard = none) (m x v : Operand) (M T E : TypeId) (hop : o.op = Op.mapUpdate M m x v) {D : TypeDesc} (S : Sep n w0 es w) (i : Nat) (hei : es[i]? = some (eMapR key ve b f)) (K : KeyG P T D key) (hM : P.underlying M = some (.map T E))
 (y : κ) (z : β) (hm : a.eval m = .map (some b)) (hx : a.eval x = key y) (hv : a.eval v = ve z)
 (hK : ∀ w',Sep n w0 (es.set i (eMapR key ve b (fun u => if u = y then some z else f u))) w' → wpList P ops Q rest (a.put o.dst undef) w') :
 wpList P ops Q (o :: rest) a w := by
 refine wpList_plain hg fun K' hK' => ?_
 obtain ⟨w',hrun,r1,r2⟩ := MapR.store K hM (S.get i hei) y z
 unfold Oper.wp
 simp [execOp,hop,hm,hx,hv,hrun,Result.andThen]
 exact hK' _ _ (hK w' (S.chg i hei _ (Off.grown r2) r1 (fun g hg => .inl hg)))
theorem wpList_insertR {P : Program} {ops : Array Oper} {rest : List Oper} {o : Oper} {a : Act} {Q : Exit → Act → World → Prop}
 (hg : o.guard = none) (m x v : Operand) (M T E : TypeId) (hop : o.op = Op.insert M m x v) {D : TypeDesc} (S : Sep n w0 es w) (i : Nat) (hei : es[i]? = some (eMapR key ve b f)) (K : KeyG P T D key) (hM : P.underlying M = some (.map T E))
 (y : κ) (z : β) (hm : a.eval m = .map (some b)) (hx : a.eval x = key y) (hv : a.eval v = ve z)
 (hK : ∀ w',Sep n w0 (es.set i (eMapR key ve b (fun u => if u = y then some z else f u))) w' → wpList P ops Q rest (a.put o.dst undef) w') :
 wpList P ops Q (o :: rest) a w := by
 refine wpList_plain hg fun K' hK' => ?_
 obtain ⟨w',hrun,r1,r2⟩ := MapR.store K hM (S.get i hei) y z
 unfold Oper.wp
 simp [execOp,hop,hm,hx,hv,hrun,Result.andThen]
 exact hK' _ _ (hK w' (S.chg i hei _ (Off.grown r2) r1 (fun g hg => .inl hg)))
def RngAt (key : κ → Value) (ve : β → Value) (w : World) (b r : Nat) (f : κ → Option β) (left : κ → Bool) (cnt : Nat) : Prop := ∃ l clock since seen c0,MpR key ve w b l clock ∧ (∀ x,f x = valG l x) ∧ w.heap[r]? = some (.mapIter (some b) since seen c0) ∧
 (∀ e,e ∈ l → e.2.2 < since) ∧ since ≤ c0 ∧ since ≤ clock ∧ (∀ e,e ∈ l → left e.1 = !seen.contains e.2.2) ∧ (∀ x,left x = true → (f x).isSome = true) ∧ (leftOf (l.map (entryG key ve)).toArray seen).size = cnt
def eRng (key : κ → Value) (ve : β → Value) (b r : Nat) (f : κ → Option β) (left : κ → Bool) (cnt : Nat) : Ent where
 foot := [b,r]
 ok w := RngAt key ve w b r f left cnt
 lt w h k hk := by
  obtain ⟨l,c,s,sn,c0,h1,_,h3,_⟩ := h
  simp at hk
  rcases hk with rfl | rfl
  · exact (Array.getElem?_eq_some_iff.1 h1.at_).1
  · exact (Array.getElem?_eq_some_iff.1 h3).1
 turn w w' h hg := by
  obtain ⟨l,c,s,sn,c0,h1,h2,h3,h4⟩ := h
  exact ⟨l,c,s,sn,c0,⟨(hg b (by simp)).trans h1.at_,h1.nd,h1.bn,h1.lt⟩,h2,(hg r (by simp)).trans h3,h4⟩
theorem leftOf_entry {κ β : Type} {key : κ → Value} {ve : β → Value} {l : List (κ × β × Nat)} {seen : Array Nat} {x : MapEntry} (h : x ∈ (leftOf (l.map (entryG key ve)).toArray seen).toList) : ∃ e,e ∈ l ∧ x = entryG key ve e ∧ seen.contains e.2.2 = false := by
 obtain ⟨h1,h2⟩ := mem_left h
 simp only [List.mem_map] at h1
 obtain ⟨e,he,rfl⟩ := h1
 exact ⟨e,he,rfl,h2⟩
theorem RngAt.left {r cnt : Nat} {left : κ → Bool} (h : RngAt key ve w b r f left cnt) : w.rangeLeft b r = cnt := by
 obtain ⟨l,clock,since,seen,c0,h1,h2,h3,h4,h5,h6,h7,h8,h9⟩ := h
 unfold World.rangeLeft
 rw [h1.at_,h3]
 exact h9
theorem RngAt.next {P : Program} {r cnt : Nat} {left : κ → Bool} (h : RngAt key ve w b r f left cnt) (ty : TypeId) :
 ((∀ x,left x = false) ∧ (Instr.next (.pointer (some ⟨r,0,none⟩)) false ty).run P w = .ok (.tuple #[.bool false]) w) ∨
 ∃ x v w' cnt',left x = true ∧ f x = some v ∧ (Instr.next (.pointer (some ⟨r,0,none⟩)) false ty).run P w = .ok (.tuple #[.bool true,key x,ve v]) w' ∧ RngAt key ve w' b r f (fun y => left y && !decide (y = x)) cnt' ∧ cnt' < cnt ∧ Off [b,r] w w' ∧
  (Instr.entry (.pointer (some ⟨r,0,none⟩))).run P w' = .ok (.tuple #[key x,ve v]) w' := by
 obtain ⟨l,clock,since,seen,c0,h1,h2,h3,h4,h5,h6,h7,h8,h9⟩ := h
 have hb := h1.at_
 have hne : r ≠ b := fun e => by rw [e,hb] at h3; cases h3
 have hold : ∀ x,x ∈ (l.map (entryG key ve)).toArray.toList → x.born < since := fun x hx => by
  simp only [List.mem_map] at hx
  obtain ⟨e,he,rfl⟩ := hx
  exact h4 e he
 rcases run_next_at (P := P) w ty r b since c0 seen _ clock h3 hb hold h5 with ⟨h0,hrun⟩ | ⟨x,hx,w1,hal,hrun⟩
 · refine .inl ⟨fun x => ?_,hrun⟩
   cases hk : left x
   · rfl
   · obtain ⟨v,hv⟩ := Option.isSome_iff_exists.1 (h8 x hk)
     rw [h2] at hv
     obtain ⟨e,he,rfl,_⟩ := valG_get hv
     rw [h7 e he] at hk
     have := all_seen _ seen h0 (entryG key ve e) (by simp only [List.mem_map]; exact ⟨e,he,rfl⟩)
     change seen.contains e.2.2 = true at this
     rw [this] at hk
     cases hk
 · obtain ⟨e,he,rfl,hs⟩ := leftOf_entry hx
   have hr1 : w1.heap[r]? = some (.mapIter (some b) since seen c0) := by rcases hal with rfl | rfl <;> exact h3
   have hb1 : w1.heap[b]? = some (.map (l.map (entryG key ve)).toArray clock) := by rcases hal with rfl | rfl <;> exact hb
   have hset1 : (ChangeMaps.setBlock w1 r (.mapIter (some b) since (seen.push e.2.2) clock)).heap[r]? = some (.mapIter (some b) since (seen.push e.2.2) clock) := (MapKept.heap_set hr1).1
   have hb' : (ChangeMaps.setBlock w1 r (.mapIter (some b) since (seen.push e.2.2) clock)).heap[b]? = some (.map (l.map (entryG key ve)).toArray clock) := ((MapKept.heap_set hr1).2 b (fun e1 => hne e1.symm)).trans hb1
   refine .inr ⟨e.1,e.2.1,_,_,by rw [h7 e he,hs]; rfl,by rw [h2]; exact valG_mem h1.nd he,hrun,⟨l,clock,since,seen.push e.2.2,clock,⟨hb',h1.nd,h1.bn,h1.lt⟩,h2,hset1,h4,h6,h6,fun y hy => ?_,fun y hy => h8 y (by simp at hy; exact hy.1),rfl⟩,?_,?_,?_⟩
   · have hc := contains_push seen e.2.2 y.2.2
     show (left y.1 && !decide (y.1 = e.1)) = _
     rw [h7 y hy,hc]
     have hiff : (y.2.2 == e.2.2) = decide (y.1 = e.1) := by
      by_cases g : y.1 = e.1
      · have : y = e := by
         have := List.pairwise_map.1 (List.nodup_iff_pairwise_ne.1 h1.nd)
         rcases List.getElem_of_mem hy with ⟨i,hi,rfl⟩
         rcases List.getElem_of_mem he with ⟨j,hj,rfl⟩
         rcases Nat.lt_trichotomy i j with q | q | q
         · exact absurd g (List.pairwise_iff_getElem.1 this i j hi hj q)
         · subst q; rfl
         · exact absurd g.symm (List.pairwise_iff_getElem.1 this j i hj hi q)
        subst this
        simp
      · have : ¬ y.2.2 = e.2.2 := fun q => by
         have := List.pairwise_map.1 (List.nodup_iff_pairwise_ne.1 h1.bn)
         rcases List.getElem_of_mem hy with ⟨i,hi,rfl⟩
         rcases List.getElem_of_mem he with ⟨j,hj,rfl⟩
         rcases Nat.lt_trichotomy i j with k | k | k
         · exact List.pairwise_iff_getElem.1 this i j hi hj k q
         · subst k; exact g rfl
         · exact List.pairwise_iff_getElem.1 this j i hj hi k q.symm
        simp [g,this]
     rw [hiff]
     cases seen.contains y.2.2 <;> cases decide (y.1 = e.1) <;> rfl
   · have hl := left_shrinks _ seen (entryG key ve e) hx
     rw [← h9]
     exact hl
   · rcases hal with rfl | rfl <;> exact ⟨rfl,rfl,rfl,by simp [ChangeMaps.setBlock],fun i _ hi => (MapKept.heap_set hr1).2 i (fun e1 => hi (by simp [e1]))⟩
   · refine run_entry_at _ r b since seen _ clock (entryG key ve e) hset1 hb' (by simp only [List.mem_map]; exact ⟨e,he,rfl⟩) ?_
     have : ((l.map (entryG key ve)).toArray.toList.map (·.born)) = l.map (·.2.2) := by simp [entryG,Function.comp_def]
     rw [this]; exact h1.bn
theorem wpList_rangeR {P : Program} {ops : Array Oper} {rest : List Oper} {o : Oper} {a : Act} {Q : Exit → Act → World → Prop}
 (hg : o.guard = none) (m : Operand) (M T E : TypeId) (hop : o.op = Op.range M m) (S : Sep n w0 (eMapR key ve b f :: es) w) (hM : P.underlying M = some (.map T E)) (hm : a.eval m = .map (some b))
 (hK : ∀ r cnt w',Sep n w0 (eRng key ve b r f (fun x => (f x).isSome) cnt :: es) w' → wpList P ops Q rest (a.put o.dst (.pointer (some ⟨r,0,none⟩))) w') :
 wpList P ops Q (o :: rest) a w := by
 refine wpList_plain hg fun K' hK' => ?_
 obtain ⟨l,clock,h1,h2⟩ := S.get 0 rfl
 have hrun := run_range_map (P := P) w M T E b _ clock hM h1.at_
 unfold Oper.wp
 simp [execOp,hop,hm,hrun,Result.andThen]
 refine hK' _ _ (hK w.heap.size (leftOf (l.map (entryG key ve)).toArray #[]).size _ ?_)
 have hlt : b < w.heap.size := (Array.getElem?_eq_some_iff.1 h1.at_).1
 have S1 := S.next (Below.new w (.mapIter (some b) clock #[] clock))
 have hnew := (MapKept.heap_alloc w (.mapIter (some b) clock #[] clock)).1
 have hb1 := ((MapKept.heap_alloc w (.mapIter (some b) clock #[] clock)).2 b hlt).trans h1.at_
 have hok : RngAt key ve (w.alloc (.mapIter (some b) clock #[] clock)) b w.heap.size f (fun x => (f x).isSome) (leftOf (l.map (entryG key ve)).toArray #[]).size :=
  ⟨l,clock,clock,#[],clock,⟨hb1,h1.nd,h1.bn,h1.lt⟩,h2,hnew,h1.lt,Nat.le_refl _,Nat.le_refl _,fun e he => by show (f e.1).isSome = _; rw [h2,valG_mem h1.nd he]; simp,fun x hx => hx,rfl⟩
 exact S.chg 0 rfl (eRng key ve b w.heap.size f (fun x => (f x).isSome) _) ⟨rfl,rfl,rfl,by simp,fun k hk _ => (MapKept.heap_alloc w _).2 k hk⟩ hok (fun g hg => by
  simp [eRng] at hg
  rcases hg with rfl | rfl
  · exact .inl (by simp [eMapR])
  · exact .inr (Nat.le_refl _))
def NoLeft (left : κ → Bool) : Prop := ∀ x,left x = false
def OneNext (key : κ → Value) (ve : β → Value) (b r : Nat) (f : κ → Option β) (left : κ → Bool) (cnt n : Nat) (w0 : World) (es : List Ent) (P : Program) (kv vv : Value) (w' : World) : Prop := ∃ (x : κ) (v : β) (cnt' : Nat),kv = key x ∧ vv = ve v ∧ left x = true ∧ f x = some v ∧ Sep n w0 (eRng key ve b r f (fun y => left y && !decide (y = x)) cnt' :: es) w' ∧ cnt' < cnt ∧
 (Instr.entry (.pointer (some ⟨r,0,none⟩))).run P w' = .ok (.tuple #[kv,vv]) w'
theorem wpList_nextR {P : Program} {ops : Array Oper} {rest : List Oper} {o : Oper} {a : Act} {Q : Exit → Act → World → Prop} {r cnt : Nat} {left : κ → Bool}
 (hg : o.guard = none) (it : Operand) (hop : o.op = Op.next it false) (S : Sep n w0 (eRng key ve b r f left cnt :: es) w) (hit : a.eval it = .pointer (some ⟨r,0,none⟩))
 (hDone : NoLeft left → wpList P ops Q rest (a.put o.dst (.tuple #[.bool false])) w)
 (hMore : ∀ (kv vv : Value) (w' : World),OneNext key ve b r f left cnt n w0 es P kv vv w' → wpList P ops Q rest (a.put o.dst (.tuple #[.bool true,kv,vv])) w') :
 wpList P ops Q (o :: rest) a w := by
 refine wpList_plain hg fun K' hK' => ?_
 unfold Oper.wp
 rcases RngAt.next (P := P) (S.get 0 rfl) o.type with ⟨h0,hrun⟩ | ⟨x,v,w',cnt',h1,h2,hrun,h3,h4,h5,h6⟩
 · simp [execOp,hop,hit,hrun,Result.andThen]
   exact hK' _ _ (hDone h0)
 · simp [execOp,hop,hit,hrun,Result.andThen]
   exact hK' _ _ (hMore (key x) (ve v) w' ⟨x,v,cnt',rfl,rfl,h1,h2,S.chg 0 rfl (eRng key ve b r f (fun y => left y && !decide (y = x)) cnt') h5 h3 (fun g hg => .inl hg),h4,h6⟩)
theorem Sep.mapRAs {g : κ → Option β} (S : Sep n w0 (eMapR key ve b f :: es) w) (h : ∀ x,g x = f x) : Sep n w0 (eMapR key ve b g :: es) w := S.as 0 rfl (eMapR key ve b g) (fun hm => hm.congr h) (fun _ hg => hg)
end
end
end Go.Proofs.YtimdepdbcdbikaaGreat
