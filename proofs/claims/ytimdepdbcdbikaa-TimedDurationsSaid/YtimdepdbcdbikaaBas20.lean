/-
  overseerlaw44.Make.
  overseerlaw44.sameState.
  overseerlaw44.initial.
  overseerlaw44.urgent.
  overseerlaw44.step.
  overseerlaw44.events.
-/
import Derived.Test.YtimdepdbcdbikaaBas01
import Derived.Test.YtimdepdbcdbikaaBas19
import Derived.BigQuiet
import Derived.Deep.MidRow
import Derived.Test.YtimdepdbcdbikaaBas14
import Derived.Test.YtimdepdbcdbikaaBas13
set_option linter.unusedSimpArgs false
set_option linter.unusedVariables false
namespace Go.Proofs.Ytimdepdbcdbikaa
open Go.RowKit
set_option maxRecDepth 100000
theorem acInfo : (Try.prog.info? 56).map (fun i => (i.zero,i.size,i.bytes)) = some (some (.agg #[.int .i64 0,.int .i64 0,.int .i64 0]),3,24) := by kernel_rfl
theorem acOne (x : Ac) : ∀ u ∈ x.cells,u.oneCell' = true := fun u hu => by
 simp only [Ac.cells,List.mem_cons,List.not_mem_nil,or_false] at hu
 rcases hu with rfl | rfl | rfl <;> rfl
def Sm5.x4 (x : Sm5) : Sm5 := ⟨x.d4,x.b⟩
theorem Sm5.cells_set (x : Sm5) : x.cells.set 0 (.int .u8 (x.d.s % 4)) = x.x4.cells := rfl
def GivesMd (x : Sm5) (w : World) (e : Ending) (w' : World) : Prop := ∃ P : MdP,e = .returned (.agg (x.md.cells P).toArray) ∧ Hid (Sep w.heap.size w (eAu x.d4.au P.p ++ [eOwn Ac.cells 3 56 (x.acs 4) (.slice P.B 4 P.d)]) w')
set_option maxHeartbeats 4000000 in
theorem make44_c (x : Sm5) (w : World) (hx : x.Ok) : Calls Try.prog 9 #[.agg x.cells.toArray] w (GivesMd x w) := by
 have HX := Lib.hid hx
 have k0 : x.cells[0]? = some (.int .u8 x.d.s) := rfl
 have s0 := hx.d.s0
 have s1 := hx.d.s1
 have ht : x.d.s.tmod 4 = x.d.s % 4 := Int.tmod_eq_emod_of_nonneg s0
 have hw : IntKind.u8.wrap (x.d.s % 4) = x.d.s % 4 := by rw [IntKind.wrap]; simp [IntKind.bits,IntKind.signed]; omega
 have CS := Lib.hid x.cells_set
 obtain ⟨cs,hcs⟩ : ∃ cs,cs = x.cells := ⟨_,rfl⟩
 rw [← hcs] at k0 ⊢
 have HCS := Lib.hid hcs
 clear hx hcs
 go_enter Try.func9,Try.ntmps9
 obtain ⟨xb,hxb⟩ : ∃ g,g = w.heap.size := ⟨_,rfl⟩
 obtain ⟨rb,hrb⟩ : ∃ g,g = w.heap.size + 1 := ⟨_,rfl⟩
 go_upto_region 1 with fail
 rw [← hrb,← hxb]
 refine wp_world (fun W => Sep w.heap.size w [eBlk rb 37 [.slice none 0 0,.int .i64 0,.slice none 0 0,.slice none 0 0,.slice none 0 0,.int .i64 0],eBlk xb 29 cs] W) (((Sep.here w).alloc' _ cs rfl hxb).alloc' _ [_,_,_,_,_,_] rfl (by rw [hrb]; simp)) fun W S => ?_
 have S0 := Lib.hid S
 clear S hxb hrb
 have x0 := (BlkAt.cell (S0.out.get 1 rfl) 0).trans k0
 have f0 := BlkAt.free (S0.out.get 1 rfl) 0
 have S1 : Hid (Sep w.heap.size w [eBlk rb 37 [.slice none 0 0,.int .i64 0,.slice none 0 0,.slice none 0 0,.slice none 0 0,.int .i64 0],eBlk xb 29 x.x4.cells] (W.setCell ⟨xb,0,none⟩ (.int .u8 (x.d.s % 4)))) := by
  have h := S0.out.set 1 rfl 0 (.int .u8 (x.d.s % 4))
  have e : cs.set 0 (.int .u8 (x.d.s % 4)) = x.x4.cells := by rw [HCS.out]; exact CS.out
  simp only [List.set_cons_succ,List.set_cons_zero] at h
  rw [e] at h
  exact h
 go_upto_region 2 with fail
 refine wp_world (fun V => Hid (Sep w.heap.size w [eBlk rb 37 [.slice none 0 0,.int .i64 0,.slice none 0 0,.slice none 0 0,.slice none 0 0,.int .i64 0],eBlk xb 29 x.x4.cells] V)) S1 fun W2 S' => ?_
 have S2 := Lib.hid S'.out
 have hd4 : x.d4.Ok := Sm5.d4_ok HX.out
 have hrg : W2.rangeAt xb 0 x.d4.cells := BlkAt.rng (S2.out.get 1 rfl) (fun j v hj => by
  have : x.x4.cells[0 + j]? = some v := by
   show (x.d4.cells ++ x.b.map (.int .u8))[0 + j]? = some v
   rw [Nat.zero_add,List.getElem?_append_left (List.getElem?_eq_some_iff.1 hj).1]
   exact hj
  exact this)
 have MC := Lib.hid (make4_c x.d4 W2 hd4)
 clear S' S1 S0 x0 f0 k0 s0 s1 ht hw CS HCS
 go_wp2_with (refine wpList_load_mid rfl 25 _ rfl xb 0 rfl x.d4.cells _ hrg Try.underlying25 rfl (Sm4.info hd4) ?_)
 refine MC.out.mono ?_
 rintro e w3 ⟨p,rfl,T⟩
 have S3 := Lib.hid (S2.out.news T.out)
 clear T MC hrg S2
 dsimp only [Au.val]
 obtain ⟨tb,htb⟩ : ∃ g,g = w3.heap.size := ⟨_,rfl⟩
 go_upto_region 3 with fail
 rw [← htb]
 refine wp_world (fun V => Hid (Sep w.heap.size w [eInts x.d4.au.al (.slice p.A1 x.d4.au.al.length p.c1),eInts x.d4.au.mr (.slice p.A2 x.d4.au.mr.length p.c2),eEds x.d4.au.ed (.slice p.A3 x.d4.au.ed.length p.c3),eOwn Ac.cells 3 56 [] (.slice none 0 0),eBlk tb 37 [.slice p.A1 x.d4.au.al.length p.c1,.int .i64 x.d4.au.n,.slice p.A2 x.d4.au.mr.length p.c2,.slice p.A3 x.d4.au.ed.length p.c3,.slice none 0 0,.int .i64 4],eBlk rb 37 [.slice none 0 0,.int .i64 0,.slice none 0 0,.slice none 0 0,.slice none 0 0,.int .i64 0],eBlk xb 29 x.x4.cells] V)) (by
  exact ((S3.out.alloc' 37 [.slice p.A1 x.d4.au.al.length p.c1,.int .i64 x.d4.au.n,.slice p.A2 x.d4.au.mr.length p.c2,.slice p.A3 x.d4.au.ed.length p.c3,.slice none 0 0,.int .i64 4] rfl htb).nilOwn Ac.cells 3 56).pick [2,3,4,0,1,5,6] (by decide)) fun W4 S' => ?_
 have S4 := Lib.hid S'.out
 clear S' S3 htb
 go_wp2_with fail
 go_loopw [4] (fun v wr => ∃ (i : Nat) (A : Option Addr) (c : Nat),v = .int .i64 (i : Int) ∧ i ≤ 4 ∧ Hid (Sep w.heap.size w [eInts x.d4.au.al (.slice p.A1 x.d4.au.al.length p.c1),eInts x.d4.au.mr (.slice p.A2 x.d4.au.mr.length p.c2),eEds x.d4.au.ed (.slice p.A3 x.d4.au.ed.length p.c3),eOwn Ac.cells 3 56 (x.acs i) (.slice A (x.acs i).length c),eBlk tb 37 [.slice p.A1 x.d4.au.al.length p.c1,.int .i64 x.d4.au.n,.slice p.A2 x.d4.au.mr.length p.c2,.slice p.A3 x.d4.au.ed.length p.c3,.slice A (x.acs i).length c,.int .i64 4],eBlk rb 37 [.slice none 0 0,.int .i64 0,.slice none 0 0,.slice none 0 0,.slice none 0 0,.int .i64 0],eBlk xb 29 x.x4.cells] wr)) (fun v _ => 4 - (intOf v).toNat)
 case atStart => exact ⟨0,none,0,rfl,by omega,S4.out⟩
 case round =>
  clear S4
  obtain ⟨i,A,c,rfl,hi,S⟩ := hrel
  by_cases hlt : i < 4
  · have hl8 := HX.out.l
    have hc : ∀ j,j < 8 → x.x4.cells[26 + j]? = some (.int .u8 (x.b.getD j 0)) ∧ 0 ≤ x.b.getD j 0 ∧ x.b.getD j 0 < 256 := fun j hj => by
     have hl : x.d4.cells.length = 26 := Sm4.cells_len (Sm5.d4_ok HX.out)
     refine ⟨?_,?_⟩
     · show (x.d4.cells ++ x.b.map (.int .u8))[26 + j]? = _
       rw [List.getElem?_append_right (by omega),hl,Nat.add_sub_cancel_left,List.getElem?_map,List.getD_eq_getElem?_getD,List.getElem?_eq_getElem (by omega)]
       rfl
     · refine HX.out.rg _ ?_
       rw [List.getD_eq_getElem?_getD,List.getElem?_eq_getElem (by omega)]
       exact List.getElem_mem _
    obtain ⟨q1,r1⟩ := hc (2 * i) (by omega)
    obtain ⟨q2,r2⟩ := hc (2 * i + 1) (by omega)
    obtain ⟨y1,hy1⟩ : ∃ y,y = x.b.getD (2 * i) 0 := ⟨_,rfl⟩
    obtain ⟨y2,hy2⟩ : ∃ y,y = x.b.getD (2 * i + 1) 0 := ⟨_,rfl⟩
    rw [← hy1] at q1 r1
    rw [← hy2] at q2 r2
    have LO : Hid (x.lo i = y1 % 3) := by rw [Hid,hy1]; rfl
    have KK : Hid (x.k i = y2 % 4) := by rw [Hid,hy2]; rfl
    have b1 : wr.cell? ⟨xb,26 + i * 2,none⟩ = some (.int .u8 y1) := by
     have h := (BlkAt.cell (S.out.get 6 rfl) (26 + 2 * i)).trans q1
     rw [show 26 + i * 2 = 26 + 2 * i by omega]; exact h
    have b2 : wr.cell? ⟨xb,26 + i * 2 + 1,none⟩ = some (.int .u8 y2) := by
     have h := (BlkAt.cell (S.out.get 6 rfl) (26 + (2 * i + 1))).trans q2
     rw [show 26 + i * 2 + 1 = 26 + (2 * i + 1) by omega]; exact h
    have t1 : y1.tmod 3 = y1 % 3 := Int.tmod_eq_emod_of_nonneg r1.1
    have t2 : y2.tmod 4 = y2 % 4 := Int.tmod_eq_emod_of_nonneg r2.1
    have w1 : IntKind.u8.wrap (y1 % 3) = y1 % 3 := by rw [IntKind.wrap]; simp [IntKind.bits,IntKind.signed]; omega
    have w2 : IntKind.u8.wrap (y2 % 4) = y2 % 4 := by rw [IntKind.wrap]; simp [IntKind.bits,IntKind.signed]; omega
    have w3 : IntKind.i64.wrap (y1 % 3) = y1 % 3 := IntWalk.i64_in _ (by omega)
    have w4 : IntKind.i64.wrap (y2 % 4) = y2 % 4 := IntWalk.i64_in _ (by omega)
    clear hc q1 hy1 hy2 hl8
    obtain ⟨ab,hab⟩ : ∃ g,g = wr.heap.size := ⟨_,rfl⟩
    go_upto_region 7 with fail
    rw [← hab]
    refine wp_world (fun V => Hid (Sep w.heap.size w [eBlk ab 56 [.int .i64 (i : Int),.int .i64 (y1 % 3),.int .i64 (-1)],eInts x.d4.au.al (.slice p.A1 x.d4.au.al.length p.c1),eInts x.d4.au.mr (.slice p.A2 x.d4.au.mr.length p.c2),eEds x.d4.au.ed (.slice p.A3 x.d4.au.ed.length p.c3),eOwn Ac.cells 3 56 (x.acs i) (.slice A (x.acs i).length c),eBlk tb 37 [.slice p.A1 x.d4.au.al.length p.c1,.int .i64 x.d4.au.n,.slice p.A2 x.d4.au.mr.length p.c2,.slice p.A3 x.d4.au.ed.length p.c3,.slice A (x.acs i).length c,.int .i64 4],eBlk rb 37 [.slice none 0 0,.int .i64 0,.slice none 0 0,.slice none 0 0,.slice none 0 0,.int .i64 0],eBlk xb 29 x.x4.cells] V)) (S.out.alloc' 56 [.int .i64 (i : Int),.int .i64 (y1 % 3),.int .i64 (-1)] rfl hab) fun W5 S' => ?_
    have S5 := Lib.hid S'.out
    clear S' S b1 b2 hab t1 w1 w3
    have b2 : W5.cell? ⟨xb,26 + i * 2 + 1,none⟩ = some (.int .u8 y2) := by
     have h := (BlkAt.cell (S5.out.get 7 rfl) (26 + (2 * i + 1))).trans q2
     rw [show 26 + i * 2 + 1 = 26 + (2 * i + 1) by omega]; exact h
    clear q2
    go_upto_if 38 with fail
    go_cut [] (fun wx => Hid (Sep w.heap.size w [eBlk ab 56 [.int .i64 (i : Int),.int .i64 (x.ac i).lo,.int .i64 (x.ac i).up],eInts x.d4.au.al (.slice p.A1 x.d4.au.al.length p.c1),eInts x.d4.au.mr (.slice p.A2 x.d4.au.mr.length p.c2),eEds x.d4.au.ed (.slice p.A3 x.d4.au.ed.length p.c3),eOwn Ac.cells 3 56 (x.acs i) (.slice A (x.acs i).length c),eBlk tb 37 [.slice p.A1 x.d4.au.al.length p.c1,.int .i64 x.d4.au.n,.slice p.A2 x.d4.au.mr.length p.c2,.slice p.A3 x.d4.au.ed.length p.c3,.slice A (x.acs i).length c,.int .i64 4],eBlk rb 37 [.slice none 0 0,.int .i64 0,.slice none 0 0,.slice none 0 0,.slice none 0 0,.int .i64 0],eBlk xb 29 x.x4.cells] wx))
    case first =>
     have EL : Hid ((x.ac i).lo = y1 % 3) := LO.out
     have a0 := BlkAt.cell (S5.out.get 0 rfl) 0; have a1 := BlkAt.cell (S5.out.get 0 rfl) 1; have a2 := BlkAt.cell (S5.out.get 0 rfl) 2
     simp only [List.getElem?_cons_succ,List.getElem?_cons_zero] at a0 a1 a2
     have af2 := BlkAt.free (S5.out.get 0 rfl) 2
     by_cases hk : 0 < y2 % 4
     · have hd : decide (0 < y2 % 4) = true := decide_eq_true hk
       have EU : Hid ((x.ac i).up = y1 % 3 + y2 % 4 - 1) := by
        show (if 0 < x.k i then x.lo i + x.k i - 1 else -1) = _
        rw [LO.out,KK.out,if_pos hk]
       have w5 : IntKind.i64.wrap (y1 % 3 + y2 % 4) = y1 % 3 + y2 % 4 := IntWalk.i64_in _ (by omega)
       have w6 : IntKind.i64.wrap (y1 % 3 + y2 % 4 - 1) = y1 % 3 + y2 % 4 - 1 := IntWalk.i64_in _ (by omega)
       have S6 : Hid (Sep w.heap.size w [eBlk ab 56 [.int .i64 (i : Int),.int .i64 (x.ac i).lo,.int .i64 (x.ac i).up],eInts x.d4.au.al (.slice p.A1 x.d4.au.al.length p.c1),eInts x.d4.au.mr (.slice p.A2 x.d4.au.mr.length p.c2),eEds x.d4.au.ed (.slice p.A3 x.d4.au.ed.length p.c3),eOwn Ac.cells 3 56 (x.acs i) (.slice A (x.acs i).length c),eBlk tb 37 [.slice p.A1 x.d4.au.al.length p.c1,.int .i64 x.d4.au.n,.slice p.A2 x.d4.au.mr.length p.c2,.slice p.A3 x.d4.au.ed.length p.c3,.slice A (x.acs i).length c,.int .i64 4],eBlk rb 37 [.slice none 0 0,.int .i64 0,.slice none 0 0,.slice none 0 0,.slice none 0 0,.int .i64 0],eBlk xb 29 x.x4.cells] (W5.setCell ⟨ab,2,none⟩ (.int .i64 (y1 % 3 + y2 % 4 - 1)))) := by rw [EL.out,EU.out]; exact S5.out.set 0 rfl 2 _
       clear S5
       go_wp2_with fail
       go_meet
       exact S6.out
     · have hd : decide (0 < y2 % 4) = false := decide_eq_false hk
       have EU : Hid ((x.ac i).up = -1) := by
        show (if 0 < x.k i then x.lo i + x.k i - 1 else -1) = _
        rw [KK.out,if_neg hk]
       have S6 : Hid (Sep w.heap.size w [eBlk ab 56 [.int .i64 (i : Int),.int .i64 (x.ac i).lo,.int .i64 (x.ac i).up],eInts x.d4.au.al (.slice p.A1 x.d4.au.al.length p.c1),eInts x.d4.au.mr (.slice p.A2 x.d4.au.mr.length p.c2),eEds x.d4.au.ed (.slice p.A3 x.d4.au.ed.length p.c3),eOwn Ac.cells 3 56 (x.acs i) (.slice A (x.acs i).length c),eBlk tb 37 [.slice p.A1 x.d4.au.al.length p.c1,.int .i64 x.d4.au.n,.slice p.A2 x.d4.au.mr.length p.c2,.slice p.A3 x.d4.au.ed.length p.c3,.slice A (x.acs i).length c,.int .i64 4],eBlk rb 37 [.slice none 0 0,.int .i64 0,.slice none 0 0,.slice none 0 0,.slice none 0 0,.int .i64 0],eBlk xb 29 x.x4.cells] W5) := by rw [EL.out,EU.out]; exact S5.out
       clear S5
       go_wp2_with fail
       go_meet
       exact S6.out
    case rest =>
     clear S5 b2 t2 w2 w4
     have S := hcut
     clear hcut
     have a0 := BlkAt.cell (S.out.get 0 rfl) 0; have a1 := BlkAt.cell (S.out.get 0 rfl) 1; have a2 := BlkAt.cell (S.out.get 0 rfl) 2
     have t4 := qkC S.out 5 rfl 4 rfl
     simp only [List.getElem?_cons_succ,List.getElem?_cons_zero] at a0 a1 a2
     have hln : (x.acs i).length ≤ 4 := by rw [x.acs_len]; omega
     have HX2 : Hid (x.acs i ++ [x.ac i] = x.acs (i + 1)) := (x.acs_next i).symm
     go_wp2_with (at_builtin; refine wpList_pushS rfl _ _ 35 rfl (S.out.alloc 56 [.int .i64 (i : Int),.int .i64 (x.ac i).lo,.int .i64 (x.ac i).up]) 5 rfl Try.underlying35 _ 24 acInfo rfl (by decide) rfl (x.ac i) _ rfl rfl (one_cell _ _ [_,_,_] _ rfl) (acOne _) (by omega) (by decide) ?_)
     intro A' c' w6 S6 _
     have S7 : Hid (Sep w.heap.size w [eInts x.d4.au.al (.slice p.A1 x.d4.au.al.length p.c1),eInts x.d4.au.mr (.slice p.A2 x.d4.au.mr.length p.c2),eEds x.d4.au.ed (.slice p.A3 x.d4.au.ed.length p.c3),eOwn Ac.cells 3 56 (x.acs (i + 1)) (.slice A' ((x.acs i).length + 1) c'),eBlk tb 37 [.slice p.A1 x.d4.au.al.length p.c1,.int .i64 x.d4.au.n,.slice p.A2 x.d4.au.mr.length p.c2,.slice p.A3 x.d4.au.ed.length p.c3,.slice A (x.acs i).length c,.int .i64 4],eBlk rb 37 [.slice none 0 0,.int .i64 0,.slice none 0 0,.slice none 0 0,.slice none 0 0,.int .i64 0],eBlk xb 29 x.x4.cells] w6) := by rw [← HX2.out]; exact S6.drop1.drop1
     clear S6 S a0 a1 a2 t4
     have t4 := qkC S7.out 4 rfl 4 rfl
     have tf4 := BlkAt.free (S7.out.get 4 rfl) 4
     have S8 : Hid (Sep w.heap.size w [eInts x.d4.au.al (.slice p.A1 x.d4.au.al.length p.c1),eInts x.d4.au.mr (.slice p.A2 x.d4.au.mr.length p.c2),eEds x.d4.au.ed (.slice p.A3 x.d4.au.ed.length p.c3),eOwn Ac.cells 3 56 (x.acs (i + 1)) (.slice A' (x.acs (i + 1)).length c'),eBlk tb 37 [.slice p.A1 x.d4.au.al.length p.c1,.int .i64 x.d4.au.n,.slice p.A2 x.d4.au.mr.length p.c2,.slice p.A3 x.d4.au.ed.length p.c3,.slice A' (x.acs (i + 1)).length c',.int .i64 4],eBlk rb 37 [.slice none 0 0,.int .i64 0,.slice none 0 0,.slice none 0 0,.slice none 0 0,.int .i64 0],eBlk xb 29 x.x4.cells] (w6.setCell ⟨tb,4,none⟩ (.slice A' ((x.acs i).length + 1) c'))) := by
      have h := S7.out.set 4 rfl 4 (.slice A' ((x.acs i).length + 1) c')
      have e : (x.acs (i + 1)).length = (x.acs i).length + 1 := by rw [x.acs_len,x.acs_len]
      rw [e]
      exact h
     clear S7 hln
     have hwr : IntKind.i64.wrap ((i : Int) + 1) = (i : Int) + 1 := IntWalk.i64_in _ (by omega)
     go_wp2_with fail
     go_roundw
     case rel => exact ⟨i + 1,A',c',by go_num,by omega,S8.out⟩
     case measure => simp [intOf]; omega
  · obtain rfl : i = 4 := by omega
    have t0 := BlkAt.cell (S.out.get 4 rfl) 0; have t1 := BlkAt.cell (S.out.get 4 rfl) 1; have t2 := BlkAt.cell (S.out.get 4 rfl) 2; have t3 := BlkAt.cell (S.out.get 4 rfl) 3; have t4 := BlkAt.cell (S.out.get 4 rfl) 4; have t5 := BlkAt.cell (S.out.get 4 rfl) 5
    have r0 := BlkAt.cell (S.out.get 5 rfl) 0; have r1 := BlkAt.cell (S.out.get 5 rfl) 1; have r2 := BlkAt.cell (S.out.get 5 rfl) 2; have r3 := BlkAt.cell (S.out.get 5 rfl) 3; have r4 := BlkAt.cell (S.out.get 5 rfl) 4; have r5 := BlkAt.cell (S.out.get 5 rfl) 5
    have f0 := BlkAt.free (S.out.get 5 rfl) 0; have f1 := BlkAt.free (S.out.get 5 rfl) 1; have f2 := BlkAt.free (S.out.get 5 rfl) 2; have f3 := BlkAt.free (S.out.get 5 rfl) 3; have f4 := BlkAt.free (S.out.get 5 rfl) 4; have f5 := BlkAt.free (S.out.get 5 rfl) 5
    simp only [List.getElem?_cons_succ,List.getElem?_cons_zero] at t0 t1 t2 t3 t5 r0 r1 r2 r3 r4 r5
    have S5 := Lib.hid ((((((S.out.set 5 rfl 0 (.slice p.A1 x.d4.au.al.length p.c1)).set 5 rfl 1 (.int .i64 x.d4.au.n)).set 5 rfl 2 (.slice p.A2 x.d4.au.mr.length p.c2)).set 5 rfl 3 (.slice p.A3 x.d4.au.ed.length p.c3)).set 5 rfl 4 (.slice A (x.acs 4).length c)).set 5 rfl 5 (.int .i64 4))
    have z0 := BlkAt.cell (S5.out.get 5 rfl) 0; have z1 := BlkAt.cell (S5.out.get 5 rfl) 1; have z2 := BlkAt.cell (S5.out.get 5 rfl) 2; have z3 := BlkAt.cell (S5.out.get 5 rfl) 3; have z4 := BlkAt.cell (S5.out.get 5 rfl) 4; have z5 := BlkAt.cell (S5.out.get 5 rfl) 5
    simp only [List.set_cons_succ,List.set_cons_zero,List.getElem?_cons_succ,List.getElem?_cons_zero] at z0 z1 z2 z3 z4 z5
    have hL : (x.acs 4).length = 4 := x.acs_len 4
    have HL := Lib.hid hL
    clear S hL
    go_wp2_with fail
    refine bodyPost_ret (v := .agg #[.slice p.A1 x.d4.au.al.length p.c1,.int .i64 x.d4.au.n,.slice p.A2 x.d4.au.mr.length p.c2,.slice p.A3 x.d4.au.ed.length p.c3,.slice A (x.acs 4).length c,.int .i64 4]) (by simp [results,Try.results9,go_sem, *]) rfl ?_
    refine ⟨⟨p,A,c⟩,rfl,?_⟩
    have h := S5.out.pick [0,1,2,3] (by decide)
    rw [HL.out] at h
    exact h
set_option maxHeartbeats 2000000 in
theorem sameState_c (c d : Ck) (A B : Option Addr) (k l : Nat) (w : World) (hA : IntsAt w A c.2) (hB : IntsAt w B d.2) (hc : c.2.length ≤ 140737488355328) (hd : d.2.length ≤ 140737488355328) :
 Calls Try.prog 19 #[.agg #[.int .i64 c.1,.slice A c.2.length k],.agg #[.int .i64 d.1,.slice B d.2.length l]] w (Tells (c = d) w) := by
 have HA := Lib.hid hA
 have HB := Lib.hid hB
 clear hA hB
 go_enter Try.func19,Try.ntmps19
 obtain ⟨b1,hb1⟩ : ∃ g,g = w.heap.size := ⟨_,rfl⟩
 obtain ⟨b2,hb2⟩ : ∃ g,g = w.heap.size + 1 := ⟨_,rfl⟩
 go_upto_region 1 with fail
 rw [← hb2,← hb1]
 refine wp_world (fun W => Sep w.heap.size w [eBlk b2 63 [.int .i64 d.1,.slice B d.2.length l],eBlk b1 63 [.int .i64 c.1,.slice A c.2.length k]] W) (((Sep.here w).alloc' _ [_,_] rfl hb1).alloc' _ [_,_] rfl (by rw [hb2]; simp)) fun W S => ?_
 have S0 := Lib.hid S
 clear S hb1 hb2
 have a0 := BlkAt.cell (S0.out.get 1 rfl) 0; have a1 := BlkAt.cell (S0.out.get 1 rfl) 1; simp only [List.getElem?_cons_succ,List.getElem?_cons_zero] at a0 a1
 have y0 := BlkAt.cell (S0.out.get 0 rfl) 0; have y1 := BlkAt.cell (S0.out.get 0 rfl) 1; simp only [List.getElem?_cons_succ,List.getElem?_cons_zero] at y0 y1
 have SC := Lib.hid (same44_c A B k l c.2 d.2 W (HA.out.below IntE.stays S0.out.below) (HB.out.below IntE.stays S0.out.below) hc hd)
 by_cases h1 : c.1 = d.1
 · have he : (c.1 == d.1) = true := by simp [h1]
   have H1 := Lib.hid h1
   clear h1
   go_wp2_with fail
   refine SC.out.mono ?_
   intro e w1 hs
   rcases hs.no1 with ⟨rfl,hn,hb⟩ | ⟨rfl,hn,hb⟩
   · have S1 := Lib.hid (S0.out.next hb)
     have HN := Lib.hid hn.out
     clear hs hn hb SC S0 a0 a1 y0 y1
     go_wp2_with fail
     go_ret
     exact Tells.no (fun g => HN.out (congrArg Prod.snd g)) S1.out.below
   · have S1 := Lib.hid (S0.out.next hb)
     have HN := Lib.hid hn.out
     clear hs hn hb SC S0 a0 a1 y0 y1
     go_wp2_with fail
     go_ret
     exact Tells.yes (Prod.ext H1.out HN.out) S1.out.below
 · have he : (c.1 == d.1) = false := beq_eq_false_iff_ne.2 h1
   have H1 := Lib.hid h1
   clear h1
   go_wp2_with fail
   all_goals first | (go_ret; exact Tells.no (fun g => H1.out (congrArg Prod.fst g)) S0.out.below) | (rename_i h h2; exact absurd h (by simp [undef]))
set_option maxHeartbeats 8000000 in
theorem initial44_c (m : Md) (P : MdP) (w : World) (hm : m.Ok) (hA : Md.At w m P) :
 Calls Try.prog 24 #[.agg (m.cells P).toArray] w (GivesStT m.start w) := by
 have h32 := hm.len32
 have HA := Lib.hid hA
 obtain ⟨p,B,d⟩ := P
 clear hm hA
 go_enter Try.func24,Try.ntmps24
 obtain ⟨mb,hmb⟩ : ∃ g,g = w.heap.size := ⟨_,rfl⟩
 obtain ⟨rb,hrb⟩ : ∃ g,g = w.heap.size + 1 := ⟨_,rfl⟩
 go_upto_region 1 with fail
 rw [← hrb,← hmb]
 refine wp_world (fun W => Sep w.heap.size w [eBlk rb 63 [.int .i64 0,.slice none 0 0],eBlk mb 37 [.slice p.A1 m.a.al.length p.c1,.int .i64 m.a.n,.slice p.A2 m.a.mr.length p.c2,.slice p.A3 m.a.ed.length p.c3,.slice B m.ac.length d,.int .i64 m.tk]] W) (((Sep.here w).alloc' _ [_,_,_,_,_,_] rfl hmb).alloc' _ [_,_] rfl (by rw [hrb]; simp)) fun W S => ?_
 have S0 := Lib.hid S
 clear S hmb hrb
 obtain ⟨sb,hsb⟩ : ∃ g,g = W.heap.size := ⟨_,rfl⟩
 go_upto_region 2 with fail
 rw [← hsb]
 refine wp_world (fun V => Sep w.heap.size w [eBlk sb 63 [.int .i64 0,.slice none (m.dfs.take 0).length 0],eInts (m.dfs.take 0) (.slice none (m.dfs.take 0).length 0),eBlk rb 63 [.int .i64 0,.slice none 0 0],eBlk mb 37 [.slice p.A1 m.a.al.length p.c1,.int .i64 m.a.n,.slice p.A2 m.a.mr.length p.c2,.slice p.A3 m.a.ed.length p.c3,.slice B m.ac.length d,.int .i64 m.tk]] V) (((S0.out.alloc' _ [_,_] rfl hsb).nilOwn encI 1 3).pick [1,0,2,3] (by decide)) fun W1 S => ?_
 have S1 := Lib.hid S
 clear S S0 hsb
 go_wp2_with fail
 go_loopw [4] (fun i wr => ∃ (k : Nat) (A0 : Option Addr) (c0 : Nat),i = .int .i64 (k : Int) ∧ k ≤ m.ac.length ∧ Hid (Sep w.heap.size w [eBlk sb 63 [.int .i64 0,.slice A0 (m.dfs.take k).length c0],eInts (m.dfs.take k) (.slice A0 (m.dfs.take k).length c0),eBlk rb 63 [.int .i64 0,.slice none 0 0],eBlk mb 37 [.slice p.A1 m.a.al.length p.c1,.int .i64 m.a.n,.slice p.A2 m.a.mr.length p.c2,.slice p.A3 m.a.ed.length p.c3,.slice B m.ac.length d,.int .i64 m.tk]] wr)) (fun i _ => m.ac.length - (intOf i).toNat)
 case atStart => exact ⟨0,none,0,rfl,Nat.zero_le _,S1.out⟩
 case round =>
  clear S1
  obtain ⟨k,A0,c0,rfl,hk,S⟩ := hrel
  have b4 := BlkAt.cell (S.out.get 3 rfl) 4; simp only [List.getElem?_cons_succ,List.getElem?_cons_zero] at b4
  by_cases hlt : k < m.ac.length
  · obtain ⟨L,hL⟩ : ∃ L,L = m.dfs.take k := ⟨_,rfl⟩
    rw [← hL] at S
    have HTK : Hid (m.dfs.take (k + 1) = L ++ [(m.at k).df]) := by
     have h1 : m.dfs[k]? = some (m.at k).df := by
      unfold Md.dfs
      rw [List.getElem?_map,List.getElem?_eq_getElem hlt]
      simp only [Option.map_some,Option.some.injEq]
      rw [Md.at_get (List.getElem?_eq_getElem hlt)]
     rw [Hid,List.take_add_one,h1,hL]; rfl
    have HKL : Hid (k < m.ac.length) := hlt
    have HLE : Hid (L.length ≤ 1048576) := by rw [Hid,hL,List.length_take]; omega
    have hwr : IntKind.i64.wrap ((k : Int) + 1) = (k : Int) + 1 := IntWalk.i64_in _ (by omega)
    clear hL
    go_upto_region 5 with fail
    clear b4
    have S1 := Lib.hid S.out.drew
    refine wp_region_held_drew (S := (fun V => Sep w.heap.size w [eBlk mb 37 [.slice p.A1 m.a.al.length p.c1,.int .i64 m.a.n,.slice p.A2 m.a.mr.length p.c2,.slice p.A3 m.a.ed.length p.c3,.slice B m.ac.length d,.int .i64 m.tk]] V)) (by kernel_rfl) ?_ (fun hHeld => ?_)
    · exact S1.out.pick [3] (by decide)
    generalize hwz : wr.drew = w1 at *
    clear hwz
    refine tkP 0 rfl hHeld ?_
    try simp only [sx]
    refine tkH 2 rfl (v := ?_) (by kernel_rfl) ?_ hHeld ?_
    rotate_left
    · intro V hSw
      have b0 := qkC hSw 0 rfl 0 rfl
      have b1 := qkC hSw 0 rfl 1 rfl
      have b2 := qkC hSw 0 rfl 2 rfl
      have b3 := qkC hSw 0 rfl 3 rfl
      have b4 := qkC hSw 0 rfl 4 rfl
      have b5 := qkC hSw 0 rfl 5 rfl
      clear hSw
      first | (go_simp; done) | (go_simp; with_reducible rfl)
    try simp only [sx]
    refine tkP 3 rfl hHeld ?_
    try simp only [sx]
    refine wpAnyH_ready (rs := [1,4]) (by kernel_rfl) (by simp) ?_
    refine AllReadyH.cons rfl (fun K hK => ?_) (AllReadyH.cons rfl (fun K hK => ?_) AllReadyH.nil)
    · skip
      have sl := qkC S1.out 0 rfl 1 rfl
      go_simp
      refine hK.out _ _ ?_ (fun hHeld => ?_)
      · exact S1.out.pick [3] (by decide)
      clear hK K
      try simp only [sx]
      refine rdH 4 rfl fun K hK => ?_
      go_simp
      refine (usual_c m ⟨p,B,d⟩ k w1 (HA.out.below S1.out.below) HKL.out).mono ?_
      rintro e w2 ⟨rfl,hb⟩
      have S2 := Lib.hid (S1.out.next hb)
      clear hb
      refine hK.out _ _ ?_ (fun hHeld => ?_)
      · exact S2.out.pick [3] (by decide)
      clear hK K
      try simp only [sx]
      refine rdH 5 rfl fun K hK => ?_
      go_simp
      obtain ⟨nnw,hnnw⟩ : ∃ n,n = w2.heap.size := ⟨_,rfl⟩
      obtain ⟨w3,hw3⟩ : ∃ v,v = w2.alloc (.cells #[(.int .i64 (m.at k).df)] 3) := ⟨_,rfl⟩
      rw [← hw3,← hnnw]
      have S3 := qkA S2.out hw3 hnnw
      skip
      clear hw3 hnnw
      refine hK.out _ _ ?_ (fun hHeld => ?_)
      · exact S3.out.pick [4] (by decide)
      clear hK K
      try simp only [sx]
      refine rdH 6 rfl fun K hK => ?_
      refine step_pushS rfl (.tmp 14) (.tmp 18) 31 rfl S3.out 2 rfl Try.underlying31 _ 8 intInfo rfl (by decide) rfl (m.at k).df nnw rfl rfl (fun j u hj => (BlkAt.cell (S3.out.get 0 rfl) j).trans hj) (encI_one _) HLE.out (by decide) ?_
      intro A1 c1 w4 S4' _
      have S4 := qkR S4'
      clear S4'
      refine hK.out _ _ ?_ (fun hHeld => ?_)
      · exact S4.out.pick [4] (by decide)
      clear hK K
      try simp only [sx]
      refine tkP 7 rfl hHeld ?_
      try simp only [sx]
      refine rdH 8 rfl fun K hK => ?_
      have sc := qkC S4.out 1 rfl 1 rfl
      have sf := BlkAt.free (S4.out.get 1 rfl) 1
      go_simp
      obtain ⟨w5,hw5⟩ : ∃ v,v = w4.setCell ⟨sb,1,none⟩ (.slice A1 (L.length + 1) c1) := ⟨_,rfl⟩
      rw [← hw5]
      have S5 := qkS S4.out hw5 1 rfl
      clear hw5 sc sf
      refine hK.out _ _ ?_ (fun hHeld => ?_)
      · exact S5.out.pick [4] (by decide)
      clear hK K
      try simp only [sx]
      refine wpAnyH_done (by kernel_rfl) ?_ _
      have S9 : Hid (Sep w.heap.size w [eBlk sb 63 [.int .i64 0,.slice A1 (m.dfs.take (k + 1)).length c1],eInts (m.dfs.take (k + 1)) (.slice A1 (m.dfs.take (k + 1)).length c1),eBlk rb 63 [.int .i64 0,.slice none 0 0],eBlk mb 37 [.slice p.A1 m.a.al.length p.c1,.int .i64 m.a.n,.slice p.A2 m.a.mr.length p.c2,.slice p.A3 m.a.ed.length p.c3,.slice B m.ac.length d,.int .i64 m.tk]] w5) := by
       have h := S5.out.drop1
       rw [HTK.out]
       rw [List.length_append,List.length_singleton]
       exact h
      go_wp2_with fail
      go_roundw
      case rel => exact ⟨k + 1,A1,c1,by go_num,by omega,S9.out⟩
      case measure => simp [intOf]; omega
    · skip
      go_simp
      refine (usual_c m ⟨p,B,d⟩ k w1 (HA.out.below S1.out.below) HKL.out).mono ?_
      rintro e w6 ⟨rfl,hb⟩
      have S6 := Lib.hid (S1.out.next hb)
      clear hb
      refine hK.out _ _ ?_ (fun hHeld => ?_)
      · exact S6.out.pick [3] (by decide)
      clear hK K
      try simp only [sx]
      refine wpAnyH_ready (rs := [1,5]) (by kernel_rfl) (by simp) ?_
      refine AllReadyH.cons rfl (fun K hK => ?_) (AllReadyH.cons rfl (fun K hK => ?_) AllReadyH.nil)
      · skip
        have sl := qkC S6.out 0 rfl 1 rfl
        go_simp
        refine hK.out _ _ ?_ (fun hHeld => ?_)
        · exact S6.out.pick [3] (by decide)
        clear hK K
        try simp only [sx]
        refine rdH 5 rfl fun K hK => ?_
        go_simp
        obtain ⟨nnw,hnnw⟩ : ∃ n,n = w6.heap.size := ⟨_,rfl⟩
        obtain ⟨w7,hw7⟩ : ∃ v,v = w6.alloc (.cells #[(.int .i64 (m.at k).df)] 3) := ⟨_,rfl⟩
        rw [← hw7,← hnnw]
        have S7 := qkA S6.out hw7 hnnw
        skip
        clear hw7 hnnw
        refine hK.out _ _ ?_ (fun hHeld => ?_)
        · exact S7.out.pick [4] (by decide)
        clear hK K
        try simp only [sx]
        refine rdH 6 rfl fun K hK => ?_
        refine step_pushS rfl (.tmp 14) (.tmp 18) 31 rfl S7.out 2 rfl Try.underlying31 _ 8 intInfo rfl (by decide) rfl (m.at k).df nnw rfl rfl (fun j u hj => (BlkAt.cell (S7.out.get 0 rfl) j).trans hj) (encI_one _) HLE.out (by decide) ?_
        intro A1 c1 w8 S8' _
        have S8 := qkR S8'
        clear S8'
        refine hK.out _ _ ?_ (fun hHeld => ?_)
        · exact S8.out.pick [4] (by decide)
        clear hK K
        try simp only [sx]
        refine tkP 7 rfl hHeld ?_
        try simp only [sx]
        refine rdH 8 rfl fun K hK => ?_
        have sc := qkC S8.out 1 rfl 1 rfl
        have sf := BlkAt.free (S8.out.get 1 rfl) 1
        go_simp
        obtain ⟨w9,hw9⟩ : ∃ v,v = w8.setCell ⟨sb,1,none⟩ (.slice A1 (L.length + 1) c1) := ⟨_,rfl⟩
        rw [← hw9]
        have S9 := qkS S8.out hw9 1 rfl
        clear hw9 sc sf
        refine hK.out _ _ ?_ (fun hHeld => ?_)
        · exact S9.out.pick [4] (by decide)
        clear hK K
        try simp only [sx]
        refine wpAnyH_done (by kernel_rfl) ?_ _
        have S9 : Hid (Sep w.heap.size w [eBlk sb 63 [.int .i64 0,.slice A1 (m.dfs.take (k + 1)).length c1],eInts (m.dfs.take (k + 1)) (.slice A1 (m.dfs.take (k + 1)).length c1),eBlk rb 63 [.int .i64 0,.slice none 0 0],eBlk mb 37 [.slice p.A1 m.a.al.length p.c1,.int .i64 m.a.n,.slice p.A2 m.a.mr.length p.c2,.slice p.A3 m.a.ed.length p.c3,.slice B m.ac.length d,.int .i64 m.tk]] w9) := by
         have h := S9.out.drop1
         rw [HTK.out]
         rw [List.length_append,List.length_singleton]
         exact h
        go_wp2_with fail
        go_roundw
        case rel => exact ⟨k + 1,A1,c1,by go_num,by omega,S9.out⟩
        case measure => simp [intOf]; omega
      · skip
        go_simp
        obtain ⟨nnw,hnnw⟩ : ∃ n,n = w6.heap.size := ⟨_,rfl⟩
        obtain ⟨w10,hw10⟩ : ∃ v,v = w6.alloc (.cells #[(.int .i64 (m.at k).df)] 3) := ⟨_,rfl⟩
        rw [← hw10,← hnnw]
        have S10 := qkA S6.out hw10 hnnw
        skip
        clear hw10 hnnw
        refine hK.out _ _ ?_ (fun hHeld => ?_)
        · exact S10.out.pick [4] (by decide)
        clear hK K
        try simp only [sx]
        refine rdH 1 rfl fun K hK => ?_
        have sl := qkC S10.out 1 rfl 1 rfl
        go_simp
        refine hK.out _ _ ?_ (fun hHeld => ?_)
        · exact S10.out.pick [4] (by decide)
        clear hK K
        try simp only [sx]
        refine rdH 6 rfl fun K hK => ?_
        refine step_pushS rfl (.tmp 14) (.tmp 18) 31 rfl S10.out 2 rfl Try.underlying31 _ 8 intInfo rfl (by decide) rfl (m.at k).df nnw rfl rfl (fun j u hj => (BlkAt.cell (S10.out.get 0 rfl) j).trans hj) (encI_one _) HLE.out (by decide) ?_
        intro A1 c1 w11 S11' _
        have S11 := qkR S11'
        clear S11'
        refine hK.out _ _ ?_ (fun hHeld => ?_)
        · exact S11.out.pick [4] (by decide)
        clear hK K
        try simp only [sx]
        refine tkP 7 rfl hHeld ?_
        try simp only [sx]
        refine rdH 8 rfl fun K hK => ?_
        have sc := qkC S11.out 1 rfl 1 rfl
        have sf := BlkAt.free (S11.out.get 1 rfl) 1
        go_simp
        obtain ⟨w12,hw12⟩ : ∃ v,v = w11.setCell ⟨sb,1,none⟩ (.slice A1 (L.length + 1) c1) := ⟨_,rfl⟩
        rw [← hw12]
        have S12 := qkS S11.out hw12 1 rfl
        clear hw12 sc sf
        refine hK.out _ _ ?_ (fun hHeld => ?_)
        · exact S12.out.pick [4] (by decide)
        clear hK K
        try simp only [sx]
        refine wpAnyH_done (by kernel_rfl) ?_ _
        have S9 : Hid (Sep w.heap.size w [eBlk sb 63 [.int .i64 0,.slice A1 (m.dfs.take (k + 1)).length c1],eInts (m.dfs.take (k + 1)) (.slice A1 (m.dfs.take (k + 1)).length c1),eBlk rb 63 [.int .i64 0,.slice none 0 0],eBlk mb 37 [.slice p.A1 m.a.al.length p.c1,.int .i64 m.a.n,.slice p.A2 m.a.mr.length p.c2,.slice p.A3 m.a.ed.length p.c3,.slice B m.ac.length d,.int .i64 m.tk]] w12) := by
         have h := S12.out.drop1
         rw [HTK.out]
         rw [List.length_append,List.length_singleton]
         exact h
        go_wp2_with fail
        go_roundw
        case rel => exact ⟨k + 1,A1,c1,by go_num,by omega,S9.out⟩
        case measure => simp [intOf]; omega
  · obtain rfl : k = m.ac.length := by omega
    have hta : m.dfs.take m.ac.length = m.dfs := by
     have : m.dfs.length = m.ac.length := by simp [Md.dfs]
     rw [← this,List.take_length]
    have S2 : Hid (Sep w.heap.size w [eBlk sb 63 [.int .i64 0,.slice A0 m.dfs.length c0],eInts m.dfs (.slice A0 m.dfs.length c0),eBlk rb 63 [.int .i64 0,.slice none 0 0],eBlk mb 37 [.slice p.A1 m.a.al.length p.c1,.int .i64 m.a.n,.slice p.A2 m.a.mr.length p.c2,.slice p.A3 m.a.ed.length p.c3,.slice B m.ac.length d,.int .i64 m.tk]] wr) := by
     have h := S.out
     rw [hta] at h
     exact h
    rw [hta] at *
    clear S hta b4
    have s0 := BlkAt.cell (S2.out.get 0 rfl) 0; have s1 := BlkAt.cell (S2.out.get 0 rfl) 1; simp only [List.getElem?_cons_succ,List.getElem?_cons_zero] at s0 s1
    have r0 := BlkAt.cell (S2.out.get 2 rfl) 0; have r1 := BlkAt.cell (S2.out.get 2 rfl) 1; simp only [List.getElem?_cons_succ,List.getElem?_cons_zero] at r0 r1
    have b4 := BlkAt.cell (S2.out.get 3 rfl) 4; simp only [List.getElem?_cons_succ,List.getElem?_cons_zero] at b4
    have f0 := BlkAt.free (S2.out.get 2 rfl) 0
    have f1 := BlkAt.free (S2.out.get 2 rfl) 1
    have S3 : Hid (Sep w.heap.size w [eBlk sb 63 [.int .i64 0,.slice A0 m.dfs.length c0],eInts m.dfs (.slice A0 m.dfs.length c0),eBlk rb 63 [.int .i64 0,.slice A0 m.dfs.length c0],eBlk mb 37 [.slice p.A1 m.a.al.length p.c1,.int .i64 m.a.n,.slice p.A2 m.a.mr.length p.c2,.slice p.A3 m.a.ed.length p.c3,.slice B m.ac.length d,.int .i64 m.tk]] ((wr.setCell ⟨rb,0,none⟩ (.int .i64 0)).setCell ⟨rb,1,none⟩ (.slice A0 m.dfs.length c0))) := (S2.out.set 2 rfl 0 (.int .i64 0)).set 2 rfl 1 (.slice A0 m.dfs.length c0)
    have g0 := qkC S3.out 2 rfl 0 rfl
    have g1 := qkC S3.out 2 rfl 1 rfl
    clear S2
    go_wp2_with fail
    refine bodyPost_ret (v := .agg #[.int .i64 0,.slice A0 m.dfs.length c0]) (by simp [results,Try.results24,go_sem, *]) rfl ?_
    exact ⟨A0,c0,rfl,S3.out.pick [1] (by decide)⟩
def urgL (m : Md) (c : Ck) (k : Nat) : List Int := ((List.range k).filter (m.urg c)).map m.ev
theorem urgL_yes {m : Md} {c : Ck} {k : Nat} (h : m.urg c k = true) : urgL m c (k + 1) = urgL m c k ++ [m.ev k] := by unfold urgL; rw [List.range_succ,List.filter_append,List.map_append]; simp [h]
theorem urgL_no {m : Md} {c : Ck} {k : Nat} (h : m.urg c k = false) : urgL m c (k + 1) = urgL m c k := by unfold urgL; rw [List.range_succ,List.filter_append,List.map_append]; simp [h]
theorem urgL_len {m : Md} {c : Ck} {k : Nat} : (urgL m c k).length ≤ k := by unfold urgL; rw [List.length_map]; exact Nat.le_trans (List.length_filter_le _ _) (by simp)
def GivesUg (m : Md) (c : Ck) (w : World) (e : Ending) (w' : World) : Prop := ∃ (A : Option Addr) (cp : Nat),e = .returned (.slice A (urgL m c m.ac.length).length cp) ∧ Hid (Sep w.heap.size w [eInts (urgL m c m.ac.length) (.slice A (urgL m c m.ac.length).length cp)] w')
set_option maxHeartbeats 8000000 in
theorem urgent44_c (m : Md) (P : MdP) (c : Ck) (AT : Option Addr) (cp : Nat) (w : World) (hm : m.Ok) (hA : Md.At w m P) (hT : IntsAt w AT c.2) (hl : c.2.length = m.ac.length) :
 Calls Try.prog 27 #[.agg (m.cells P).toArray,.agg #[.int .i64 c.1,.slice AT c.2.length cp]] w (GivesUg m c w) := by
 have h32 := hm.len32
 have HA := Lib.hid hA
 have HT := Lib.hid hT
 have HLL := Lib.hid hl
 obtain ⟨p,B,d⟩ := P
 clear hm hA hT hl
 go_enter Try.func27,Try.ntmps27
 obtain ⟨mb,hmb⟩ : ∃ g,g = w.heap.size := ⟨_,rfl⟩
 obtain ⟨sb,hsb⟩ : ∃ g,g = w.heap.size + 1 := ⟨_,rfl⟩
 go_upto_region 1 with fail
 rw [← hsb,← hmb]
 refine wp_world (fun W => Sep w.heap.size w [eInts (urgL m c 0) (.slice none (urgL m c 0).length 0),eBlk sb 63 [.int .i64 c.1,.slice AT c.2.length cp],eBlk mb 37 [.slice p.A1 m.a.al.length p.c1,.int .i64 m.a.n,.slice p.A2 m.a.mr.length p.c2,.slice p.A3 m.a.ed.length p.c3,.slice B m.ac.length d,.int .i64 m.tk]] W) ((((Sep.here w).alloc' _ [_,_,_,_,_,_] rfl hmb).alloc' _ [_,_] rfl (by rw [hsb]; simp)).nilOwn encI 1 3) fun W S => ?_
 have S0 := Lib.hid S
 clear S hmb hsb
 go_wp2_with fail
 go_loopw [6,5] (fun i v wr => ∃ (k : Nat) (A0 : Option Addr) (c0 : Nat),i = .int .i64 (k : Int) ∧ v = .slice A0 (urgL m c k).length c0 ∧ k ≤ m.ac.length ∧ Hid (Sep w.heap.size w [eInts (urgL m c k) (.slice A0 (urgL m c k).length c0),eBlk sb 63 [.int .i64 c.1,.slice AT c.2.length cp],eBlk mb 37 [.slice p.A1 m.a.al.length p.c1,.int .i64 m.a.n,.slice p.A2 m.a.mr.length p.c2,.slice p.A3 m.a.ed.length p.c3,.slice B m.ac.length d,.int .i64 m.tk]] wr)) (fun i _ _ => m.ac.length - (intOf i).toNat)
 case atStart => exact ⟨0,none,0,rfl,rfl,Nat.zero_le _,S0.out⟩
 case round =>
  clear S0
  obtain ⟨k,A0,c0,rfl,rfl,hk,S⟩ := hrel
  have b4 := BlkAt.cell (S.out.get 2 rfl) 4; simp only [List.getElem?_cons_succ,List.getElem?_cons_zero] at b4
  by_cases hlt : k < m.ac.length
  · obtain ⟨gb,ob,x,hB,hgb,hx,x0,x1,x2⟩ := AcsAt.at (HA.out.ac.below AcE.stays S.out.below) hlt
    dsimp only at hB
    subst hB
    obtain ⟨gt,ot,y,hTT,hgt,hy,y0⟩ := IntsAt.at (HT.out.below IntE.stays S.out.below) (k := k) (by rw [HLL.out]; exact hlt)
    subst hTT
    have htm : tmr c k = y := by
     have h1 := tmr_get (c := c) (i := k) (by rw [HLL.out]; exact hlt)
     rw [hy] at h1
     exact (Option.some.inj h1).symm
    have hev : m.ev k = x.ev := Md.ev_get hx
    have UG : Hid (m.urg c k = (decide (0 ≤ nextV m.a.ed c.1 x.ev) && decide (0 ≤ x.up) && decide (y = 0))) := by rw [Hid,Md.urg,Md.at_get hx,htm,Md.pr,Md.nx,hev]
    have HEV := Lib.hid hev
    have hwr : IntKind.i64.wrap ((k : Int) + 1) = (k : Int) + 1 := IntWalk.i64_in _ (by omega)
    have HY := Lib.hid hy
    have HLN := Lib.hid (urgL_len (m := m) (c := c) (k := k))
    have hkc : k < c.2.length := by rw [HLL.out]; exact hlt
    obtain ⟨xb,hxb⟩ : ∃ g,g = wr.heap.size := ⟨_,rfl⟩
    clear hx hy hgb hgt htm hev
    go_upto_region 6 with fail
    rw [← hxb]
    refine wp_world (fun W => Hid (Sep w.heap.size w [eBlk xb 56 [.int .i64 x.ev,.int .i64 x.lo,.int .i64 x.up],eInts (urgL m c k) (.slice A0 (urgL m c k).length c0),eBlk sb 63 [.int .i64 c.1,.slice (some ⟨gt,ot,none⟩) c.2.length cp],eBlk mb 37 [.slice p.A1 m.a.al.length p.c1,.int .i64 m.a.n,.slice p.A2 m.a.mr.length p.c2,.slice p.A3 m.a.ed.length p.c3,.slice (some ⟨gb,ob,none⟩) m.ac.length d,.int .i64 m.tk]] W)) (S.out.alloc' 56 [.int .i64 x.ev,.int .i64 x.lo,.int .i64 x.up] rfl hxb) fun W3 S' => ?_
    have S3 := Lib.hid S'.out
    have y1 : W3.cell? ⟨gt,ot + k,none⟩ = some (.int .i64 y) := by
     have hh := (HT.out.below IntE.stays S3.out.below)
     obtain ⟨gt2,ot2,y2,h1,_,h2,h3⟩ := IntsAt.at hh hkc
     cases h1
     have := h2.symm.trans HY.out
     cases this
     exact h3
    have PC := prepared_c m ⟨p,(some ⟨gb,ob,none⟩),d⟩ c.1 x.ev W3 (HA.out.below S3.out.below)
    dsimp only [Md.cells] at PC
    have PC2 := Lib.hid PC
    clear S' S x0 x1 x2 y0 b4 hxb PC
    have x0 := BlkAt.cell (S3.out.get 0 rfl) 0; have x1 := BlkAt.cell (S3.out.get 0 rfl) 1; have x2 := BlkAt.cell (S3.out.get 0 rfl) 2; simp only [List.getElem?_cons_succ,List.getElem?_cons_zero] at x0 x1 x2
    have s0 := BlkAt.cell (S3.out.get 2 rfl) 0; have s1 := BlkAt.cell (S3.out.get 2 rfl) 1; simp only [List.getElem?_cons_succ,List.getElem?_cons_zero] at s0 s1
    have b0 := BlkAt.cell (S3.out.get 3 rfl) 0; have b1 := BlkAt.cell (S3.out.get 3 rfl) 1; have b2 := BlkAt.cell (S3.out.get 3 rfl) 2; have b3 := BlkAt.cell (S3.out.get 3 rfl) 3; have b4 := BlkAt.cell (S3.out.get 3 rfl) 4; have b5 := BlkAt.cell (S3.out.get 3 rfl) 5; simp only [List.getElem?_cons_succ,List.getElem?_cons_zero] at b0 b1 b2 b3 b4 b5
    by_cases hu : 0 ≤ x.up
    · have hdu : decide (0 ≤ x.up) = true := decide_eq_true hu
      by_cases ht : y = 0
      · subst ht
        obtain ⟨z,hz⟩ : ∃ z,z = nextV m.a.ed c.1 x.ev := ⟨_,rfl⟩
        rw [← hz] at PC2 UG
        have HZ := Lib.hid hz
        clear hz
        go_wp2_with fail
        refine PC2.out.mono ?_
        rintro e w4 ⟨rfl,hb⟩
        have S4 := Lib.hid (S3.out.next hb)
        clear hb PC2 S3 x0 x1 x2 s0 s1 b0 b1 b2 b3 b4 b5 y1
        have x0 := BlkAt.cell (S4.out.get 0 rfl) 0; have x1 := BlkAt.cell (S4.out.get 0 rfl) 1; have x2 := BlkAt.cell (S4.out.get 0 rfl) 2; simp only [List.getElem?_cons_succ,List.getElem?_cons_zero] at x0 x1 x2
        by_cases hz0 : 0 ≤ z
        · have hdz : decide (0 ≤ z) = true := decide_eq_true hz0
          have E : Hid (urgL m c (k + 1) = urgL m c k ++ [x.ev]) := by rw [Hid,urgL_yes (by rw [UG.out,hdz,hdu]; rfl),HEV.out]
          have hln : (urgL m c k).length ≤ 32 := by have := HLN.out; omega
          clear hz0
          go_wp2_with (at_builtin; refine wpList_pushS rfl _ _ 31 rfl (S4.out.alloc 3 [.int .i64 x.ev]) 2 rfl Try.underlying31 _ 8 intInfo rfl (by decide) rfl x.ev _ rfl rfl (one_cell _ _ [_] _ rfl) (encI_one _) (by omega) (by decide) ?_)
          intro A' c' w6 S6 _
          have S7 : Hid (Sep w.heap.size w [eInts (urgL m c (k + 1)) (.slice A' ((urgL m c k).length + 1) c'),eBlk sb 63 [.int .i64 c.1,.slice (some ⟨gt,ot,none⟩) c.2.length cp],eBlk mb 37 [.slice p.A1 m.a.al.length p.c1,.int .i64 m.a.n,.slice p.A2 m.a.mr.length p.c2,.slice p.A3 m.a.ed.length p.c3,.slice (some ⟨gb,ob,none⟩) m.ac.length d,.int .i64 m.tk]] w6) := by rw [E.out]; exact S6.drop1.drop1
          have HN : Hid ((urgL m c k).length + 1 = (urgL m c (k + 1)).length) := by rw [E.out,List.length_append]; rfl
          clear S6 S4 x0 x1 x2 hln
          go_wp2_with fail
          go_roundw
          case rel => exact ⟨k + 1,A',c',by go_num,by rw [HN.out],by omega,by have h := S7.out; rw [HN.out] at h; exact h⟩
          case measure => simp [intOf]; omega
        · have hdz : decide (0 ≤ z) = false := decide_eq_false hz0
          have E : Hid (urgL m c (k + 1) = urgL m c k) := urgL_no (by rw [UG.out,hdz]; rfl)
          clear hz0
          go_wp2_with fail
          go_roundw
          case rel => exact ⟨k + 1,A0,c0,by go_num,by rw [E.out],by omega,by have h := S4.out.drop1; rw [← E.out] at h; exact h⟩
          case measure => simp [intOf]; omega
      · have hdt : (y == 0) = false := beq_eq_false_iff_ne.2 ht
        have E : Hid (urgL m c (k + 1) = urgL m c k) := urgL_no (by rw [UG.out,decide_eq_false ht,Bool.and_false])
        clear ht
        go_wp2_with fail
        all_goals first | (rename_i h h2; exact absurd h (by simp [undef])) | skip
        go_roundw
        case rel => exact ⟨k + 1,A0,c0,by go_num,by rw [E.out],by omega,by have h := S3.out.drop1; rw [← E.out] at h; exact h⟩
        case measure => simp [intOf]; omega
    · have hdu : decide (0 ≤ x.up) = false := decide_eq_false hu
      have E : Hid (urgL m c (k + 1) = urgL m c k) := urgL_no (by rw [UG.out,hdu,Bool.and_false]; rfl)
      clear hu
      go_wp2_with fail
      all_goals first | (rename_i h h2; exact absurd h (by simp [undef])) | skip
      go_roundw
      case rel => exact ⟨k + 1,A0,c0,by go_num,by rw [E.out],by omega,by have h := S3.out.drop1; rw [← E.out] at h; exact h⟩
      case measure => simp [intOf]; omega
  · obtain rfl : k = m.ac.length := by omega
    go_wp2_with fail
    go_ret
    exact ⟨A0,c0,rfl,S.out.first⟩
theorem step_appendIn {P : Program} {n : Nat} {w0 w : World} {es : List Ent} {ops : Array Oper} {o : Oper} {a : Act} {K : Act → World → Prop} {Q : Exit → Act → World → Prop} {E : Prop} (hgd : o.guard = none) (s x : Operand) (t : TypeId)
 (ho : o.op = .call { callee := .builtin .append,args := #[s,x],argTypes := #[t,t] }) (S : Sep n w0 es w) (i : Nat) {l : List Int} {v : Value} (hei : es[i]? = some (eInts l v))
 (ht : P.underlying t = some (.slice 3)) (hi : (P.info? 3).map (fun i => (i.zero,i.size,i.bytes)) = some (some (.int .i64 0),1,8))
 (hs : a.eval s = v) (A : Option Addr) (c : Nat) (b : List Int) (hx : a.eval x = .slice A b.length c) (hB : IntsAt w A b) (hl : l.length + b.length ≤ 1048577)
 (h : ∀ A' c' w',Sep n w0 (es.set i (eInts (l ++ b) (.slice A' (l.length + b.length) c'))) w' → Off v.ownBlock.toList w w' → K (a.put o.dst (.slice A' (l.length + b.length) c')) w') :
 if Region.wanted o (yielded ops a.tmps) = true then Oper.wp P o a w K Q else E := by
 have own := S.get i hei
 cases A with
 | none =>
   obtain ⟨i0,hi0,hz,hsize,hb⟩ := info_parts hi
   obtain rfl := hB.nil0
   obtain ⟨A',c',rfl⟩ := Own.form own
   have hr := app_none t o.type 3 i0 (.int .i64 0) P ht hi0 hz A' l.length c' c w (fun e => by subst e; rw [OwnI.nil0 own]; rfl) (Own.cap own)
   have hw : Region.wanted o (yielded ops a.tmps) = true := by simp [Region.wanted,hgd]
   rw [if_pos hw]
   unfold Oper.wp execOp
   simp only [ho,resolve,invoke,builtin,Sem.run_bind,Sem.run_pure,Result.andThen_ok,List.map_toArray,List.map_cons,List.map_nil,hs,hx,List.length_nil,hr]
   exact h A' c' w (S.as i hei _ (fun g => by rw [List.append_nil]; exact g) (fun _ g => g)) ⟨rfl,rfl,rfl,Nat.le_refl _,fun _ _ _ => rfl⟩
 | some ad =>
   refine step_append_at hgd s x t ho 0 3 (.int .i64 0) 1 8 ht hi rfl (by decide) v l.length (l.flatMap encI) hs own ad b.length c (b.flatMap encI) hx (by rw [flat_encI]; simp) (fun j u hj => ?_) (fun u hu => ?_) (by simp only [maxLen]; omega) (by omega) (Nat.zero_le _) fun A' c' w' ho' hg hat => h A' c' w' (S.chg i hei _ (Off.grown hg) ?_ (fun g hg => ?_)) (Off.grown hg)
   · rw [flat_encI] at hj; exact IntsAt.cells hB j u hj
   · rw [flat_encI] at hu; obtain ⟨y,_,rfl⟩ := List.mem_map.1 hu; rfl
   · show Own encI 1 3 0 (l ++ b) _ w'
     unfold Own; rw [List.flatMap_append,List.length_append]; exact ho'
   · simp only [eOwn,Option.mem_toList] at hg ⊢
     rcases hat with h | h
     · exact .inl (by rw [← h]; exact hg)
     · rw [h] at hg; cases hg; exact .inr (Nat.le_refl _)
theorem Sep.intsForm {n : Nat} {w0 w : World} {es : List Ent} {l : List Int} {v : Value} (S : Sep n w0 es w) (i : Nat) (hi : es[i]? = some (eInts l v)) (hl : l ≠ []) : ∃ g c,v = .slice (some ⟨g,0,none⟩) l.length c := by
 rcases (S.get i hi).2 with ⟨_,h⟩ | ⟨g,cap,cur,r1,_⟩
 · exact absurd (List.eq_nil_of_length_eq_zero h) hl
 · exact ⟨g,cap,r1⟩
theorem Sep.intFree {n : Nat} {w0 w : World} {es : List Ent} {l : List Int} {g m c : Nat} (S : Sep n w0 es w) (i : Nat) (hi : es[i]? = some (eInts l (.slice (some ⟨g,0,none⟩) m c))) (k : Nat) : w.frozen? ⟨g,k,none⟩ = false := by
 rcases (S.get i hi).2 with ⟨h,_⟩ | ⟨g',cap,cur,r1,r2,r3,_⟩
 · cases h
 · cases r1
   exact frozen_of_row w g k cur 3 r3
theorem Sep.setI {n : Nat} {w0 w : World} {es : List Ent} {l : List Int} {g N c : Nat} (S : Sep n w0 es w) (i : Nat) (hi : es[i]? = some (eInts l (.slice (some ⟨g,0,none⟩) N c))) (k : Nat) (x : Int) : Sep n w0 (es.set i (eInts (l.set k x) (.slice (some ⟨g,0,none⟩) N c))) (w.setCell ⟨g,k,none⟩ (.int .i64 x)) := by
 refine S.chg i hi _ (Off.set w g k _) ?_ (fun g hg => .inl (by simpa [eOwn,Value.ownBlock] using hg))
 obtain ⟨h1,h2⟩ := S.get i hi
 refine ⟨by rw [flat_encI]; simp,?_⟩
 rcases h2 with ⟨h,_⟩ | ⟨g',cap,cur,r1,r2,r3,r4,r5,r6,r7⟩
 · cases h
 · cases r1
   have r3' : BlkAt w g 3 cur.toList := by rw [BlkAt]; simpa using r3
   have h3 := BlkAt.set_ r3' k (.int .i64 x)
   refine .inr ⟨g,c,(cur.toList.set k (.int .i64 x)).toArray,by rw [List.length_set],r2,h3,by rw [List.length_set]; exact r4,r5,?_,?_⟩
   · simpa using r6
   · rw [flat_encI] at r7 ⊢
     simp only [Nat.mul_one] at r7 ⊢
     rw [List.length_set]
     show (cur.toList.set k _).take _ = _
     rw [List.take_set,r7,List.map_set]
theorem Md.eff_tick (m : Md) (c : Ck) : m.eff m.tk c = m.tick c := if_pos rfl
theorem Md.eff_else {m : Md} {c : Ck} {e : Int} (h : e ≠ m.tk) : m.eff e c = m.act c (m.idx e) := if_neg h
theorem Md.next_no {m : Md} (hm : m.Ok) {s e : Int} (h : ¬ e ∈ m.a.al) : nextV m.a.ed s e = -1 := by
 rcases hm.a.next_cases s e with g | ⟨_,_,x,hx,h1,h2,h3⟩
 · exact g
 · obtain ⟨i,hi,rfl⟩ := List.mem_iff_getElem.1 hx
   have := (hm.a.edge (List.getElem?_eq_getElem hi)).2.2.2.2
   rw [h2] at this
   exact absurd this h
theorem Md.act_no {m : Md} (hm : m.Ok) {c : Ck} {e : Int} (h : ¬ 0 ≤ nextV m.a.ed c.1 e) : m.act c (m.idx e) = none := by
 have hp : m.pr c.1 (m.idx e) = false := by
  refine decide_eq_false ?_
  by_cases he : e ∈ m.a.al
  · obtain ⟨p,hp,hpe⟩ := List.mem_iff_getElem.1 he
    have h1 : m.a.al[p]? = some e := by rw [List.getElem?_eq_getElem hp,hpe]
    have h2 := Md.idx_at hm h1
    rw [h2]
    unfold Md.nx
    have h3 : m.ev p = e := by
     have h4 := hm.ev
     have h5 : (m.ac.map Ac.ev)[p]? = some e := by rw [h4]; exact h1
     rw [List.getElem?_map] at h5
     unfold Md.ev
     rw [h5]; rfl
    rw [h3]; exact h
  · have hni : m.idx e = m.ac.length := by
     unfold Md.idx
     rw [List.findIdx_eq_length_of_false,List.length_map]
     intro x hx
     rw [hm.ev] at hx
     exact decide_eq_false (fun g => he (by rw [← g]; exact hx))
    have hev : m.ev m.ac.length = -1 := by unfold Md.ev; rw [List.getElem?_eq_none (Nat.le_refl _)]; rfl
    rw [hni]
    unfold Md.nx
    rw [hev,Md.next_no hm]
    · decide
    · intro h1
      have := al_rg hm.a h1
      omega
 unfold Md.act Md.may
 rw [hp]; rfl
theorem Md.at_ev {m : Md} (hm : m.Ok) {s e : Int} (h : 0 ≤ nextV m.a.ed s e) : ∃ p,p < m.ac.length ∧ m.idx e = p ∧ m.ev p = e ∧ m.nx s p = nextV m.a.ed s e := by
 have he : e ∈ m.a.al := Classical.byContradiction fun g => by rw [Md.next_no hm g] at h; omega
 obtain ⟨p,hp,hpe⟩ := List.mem_iff_getElem.1 he
 have h1 : m.a.al[p]? = some e := by rw [List.getElem?_eq_getElem hp,hpe]
 have h3 : m.ev p = e := by
  have h5 : (m.ac.map Ac.ev)[p]? = some e := by rw [hm.ev]; exact h1
  rw [List.getElem?_map] at h5
  unfold Md.ev
  rw [h5]; rfl
 exact ⟨p,by rw [hm.len]; exact hp,Md.idx_at hm h1,h3,by unfold Md.nx; rw [h3]⟩
theorem Md.ev_inj {m : Md} (hm : m.Ok) {i j : Nat} (hi : i < m.ac.length) (hj : j < m.ac.length) (h : m.ev i = m.ev j) : i = j := by
 have al : ∀ k,k < m.ac.length → m.a.al[k]? = some (m.ev k) := fun k hk => by
  rw [← hm.ev,List.getElem?_map,List.getElem?_eq_getElem hk]
  unfold Md.ev
  rw [List.getElem?_eq_getElem hk]; rfl
 rcases Nat.lt_trichotomy i j with g | g | g
 · have := hm.a.al.incr i j _ _ g (al i hi) (al j hj); omega
 · exact g
 · have := hm.a.al.incr j i _ _ g (al j hj) (al i hi); omega
theorem urg_none {m : Md} {c : Ck} (h : (urgL m c m.ac.length).length = 0) : m.tick c = some (c.1,m.fall c m.ac.length) := by
 unfold Md.tick
 rw [if_neg]
 intro g
 obtain ⟨i,hi,hu⟩ := List.any_eq_true.1 g
 have h1 := List.eq_nil_of_length_eq_zero h
 unfold urgL at h1
 have h2 := List.map_eq_nil_iff.1 h1
 have : i ∈ (List.range m.ac.length).filter (m.urg c) := List.mem_filter.2 ⟨hi,hu⟩
 rw [h2] at this; cases this
theorem urg_some {m : Md} {c : Ck} (h : 0 < (urgL m c m.ac.length).length) : m.tick c = none := by
 unfold Md.tick
 rw [if_pos]
 obtain ⟨x,hx⟩ := List.exists_mem_of_length_pos h
 unfold urgL at hx
 obtain ⟨i,hi,_⟩ := List.mem_map.1 hx
 obtain ⟨h1,h2⟩ := List.mem_filter.1 hi
 exact List.any_eq_true.2 ⟨i,h1,h2⟩
def GivesSp (r : Option Ck) (w : World) (e : Ending) (w' : World) : Prop := ∃ (A : Option Addr) (cp : Nat),e = .returned (.tuple #[.agg #[.int .i64 (r.getD (0,[])).1,.slice A (r.getD (0,[])).2.length cp],.bool r.isSome]) ∧ Hid (Sep w.heap.size w [eInts (r.getD (0,[])).2 (.slice A (r.getD (0,[])).2.length cp)] w')
theorem GivesSp.no {w w' : World} (h : Below w.heap.size w w') : GivesSp none w (.returned (.tuple #[.agg #[.int .i64 0,.slice none 0 0],.bool false])) w' :=
 ⟨none,0,rfl,((Sep.here w).next h).nilOwn encI 1 3⟩
def evL (m : Md) : Nat → List Int × Bool
 | 0 => ([],false)
 | k + 1 => if (!(evL m k).2 && decide (m.tk < m.ev k)) = true then ((evL m k).1 ++ [m.tk] ++ [m.ev k],true) else ((evL m k).1 ++ [m.ev k],(evL m k).2)
theorem evL_len (m : Md) : ∀ k,(evL m k).1.length ≤ 2 * k
 | 0 => by simp [evL]
 | k + 1 => by
   have := evL_len m k
   simp only [evL]
   split <;> simp only [List.length_append,List.length_singleton] <;> omega
theorem evL_inv {m : Md} (hm : m.Ok) : ∀ k,k ≤ m.ac.length → Rises (fun p q : Int => p < q) (evL m k).1 ∧ (∀ x,x ∈ (evL m k).1 ↔ (∃ j,j < k ∧ m.ev j = x) ∨ ((evL m k).2 = true ∧ x = m.tk)) ∧ ((evL m k).2 = true → ∃ j,j < k ∧ m.tk < m.ev j) ∧ ((evL m k).2 = false → ∀ j,j < k → m.ev j < m.tk)
 | 0,_ => ⟨by simp [evL,Rises],by simp [evL],by simp [evL],by simp [evL]⟩
 | k + 1,hk => by
   obtain ⟨h1,h2,h3,h4⟩ := evL_inv hm k (by omega)
   have al : ∀ j,j < m.ac.length → m.a.al[j]? = some (m.ev j) := fun j hj => by
    rw [← hm.ev,List.getElem?_map,List.getElem?_eq_getElem hj]
    unfold Md.ev
    rw [List.getElem?_eq_getElem hj]; rfl
   have up : ∀ j,j < k → m.ev j < m.ev k := fun j hj => hm.a.al.incr j k _ _ hj (al j (by omega)) (al k (by omega))
   have ne : m.ev k ≠ m.tk := fun g => hm.no (by rw [← g]; exact List.mem_of_getElem? (al k (by omega)))
   have js : ∀ x,(∃ j,j < k + 1 ∧ m.ev j = x) ↔ (∃ j,j < k ∧ m.ev j = x) ∨ x = m.ev k := fun x => by
    constructor
    · rintro ⟨j,hj,rfl⟩
      by_cases e : j = k
      · subst e; exact .inr rfl
      · exact .inl ⟨j,by omega,rfl⟩
    · rintro (⟨j,hj,rfl⟩ | rfl)
      · exact ⟨j,by omega,rfl⟩
      · exact ⟨k,by omega,rfl⟩
   have snoc : ∀ (l : List Int) (x : Int),Rises (fun p q : Int => p < q) l → (∀ y,y ∈ l → y < x) → Rises (fun p q : Int => p < q) (l ++ [x]) := fun l x hl hx => hl.push hx
   simp only [evL]
   cases hd : (evL m k).2 with
   | true =>
     have hfalse : ¬ ((!true && decide (m.tk < m.ev k)) = true) := by simp
     rw [if_neg hfalse]
     rw [hd] at h2
     refine ⟨snoc _ _ h1 (fun y hy => ?_),fun x => ?_,fun _ => ?_,(fun h => by cases h)⟩
     · rcases (h2 y).1 hy with ⟨j,hj,rfl⟩ | ⟨_,rfl⟩
       · exact up j hj
       · obtain ⟨j,hj,hjt⟩ := h3 hd
         have := up j hj; omega
     · rw [List.mem_append,h2,List.mem_singleton,js]
       constructor
       · rintro ((h | h) | h)
         · exact .inl (.inl h)
         · exact .inr h
         · exact .inl (.inr h)
       · rintro ((h | h) | h)
         · exact .inl (.inl h)
         · exact .inr h
         · exact .inl (.inr h)
     · obtain ⟨j,hj,hjt⟩ := h3 hd
       exact ⟨j,by omega,hjt⟩
   | false =>
     rw [hd] at h2
     have low : ∀ y,y ∈ (evL m k).1 → y < m.tk ∧ y < m.ev k := fun y hy => by
      rcases (h2 y).1 hy with ⟨j,hj,rfl⟩ | ⟨g,_⟩
      · exact ⟨h4 hd j hj,up j hj⟩
      · cases g
     by_cases ht : m.tk < m.ev k
     · rw [if_pos (by simp [ht])]
       refine ⟨snoc _ _ (snoc _ _ h1 (fun y hy => (low y hy).1)) (fun y hy => ?_),fun x => ?_,fun _ => ⟨k,by omega,ht⟩,(fun h => by cases h)⟩
       · rcases List.mem_append.1 hy with g | g
         · exact (low y g).2
         · simp at g; subst g; exact ht
       · rw [List.mem_append,List.mem_append,h2,List.mem_singleton,List.mem_singleton,js]
         constructor
         · rintro (((h | h) | h) | h)
           · exact .inl (.inl h)
           · cases h.1
           · exact .inr ⟨rfl,h⟩
           · exact .inl (.inr h)
         · rintro ((h | h) | h)
           · exact .inl (.inl (.inl h))
           · exact .inr h
           · exact .inl (.inr h.2)
     · rw [if_neg (by simp; omega)]
       refine ⟨snoc _ _ h1 (fun y hy => (low y hy).2),fun x => ?_,(fun h => by cases h),fun _ j hj => ?_⟩
       · rw [List.mem_append,h2,List.mem_singleton,js]
         constructor
         · rintro ((h | h) | h)
           · exact .inl (.inl h)
           · cases h.1
           · exact .inl (.inr h)
         · rintro ((h | h) | h)
           · exact .inl (.inl h)
           · exact .inr h
           · cases h.1
       · by_cases e : j = k
         · subst e; omega
         · exact h4 hd j (by omega)
theorem evL_fin {m : Md} (hm : m.Ok) : (if (evL m m.ac.length).2 = true then (evL m m.ac.length).1 else (evL m m.ac.length).1 ++ [m.tk]) = m.all := by
 obtain ⟨h1,h2,h3,h4⟩ := evL_inv hm m.ac.length (Nat.le_refl _)
 have al : ∀ x,x ∈ m.a.al ↔ ∃ j,j < m.ac.length ∧ m.ev j = x := fun x => by
  rw [← hm.ev]
  constructor
  · intro hx
    obtain ⟨j,hj,rfl⟩ := List.mem_iff_getElem.1 hx
    rw [List.length_map] at hj
    exact ⟨j,hj,by rw [Md.ev_get (List.getElem?_eq_getElem hj),List.getElem_map]⟩
  · rintro ⟨j,hj,rfl⟩
    rw [Md.ev_get (List.getElem?_eq_getElem hj)]
    exact List.mem_map.2 ⟨_,List.getElem_mem hj,rfl⟩
 refine Rises.ext (R := fun p q : Int => p < q) (fun a h => by omega) (fun a b h => by omega) ?_ (all_incr hm) (fun x => ?_)
 · split
   · exact h1
   · rename_i hd
     refine h1.push fun a ha => ?_
     rcases (h2 a).1 ha with ⟨j,hj,rfl⟩ | ⟨g,_⟩
     · exact h4 (by simpa using hd) j hj
     · exact absurd g hd
 · rw [mem_all,al]
   split
   · rename_i hd
     rw [h2]
     constructor
     · rintro (h | h)
       · exact .inl h
       · exact .inr h.2
     · rintro (h | h)
       · exact .inl h
       · exact .inr ⟨hd,h⟩
   · rename_i hd
     rw [List.mem_append,h2,List.mem_singleton]
     constructor
     · rintro ((h | h) | h)
       · exact .inl h
       · exact absurd h.1 hd
       · exact .inr h
     · rintro (h | h)
       · exact .inl (.inl h)
       · exact .inr h
def GivesEl (l : List Int) (w : World) (e : Ending) (w' : World) : Prop := ∃ (A : Option Addr) (cp : Nat),e = .returned (.slice A l.length cp) ∧ Hid (Sep w.heap.size w [eInts l (.slice A l.length cp)] w')
set_option maxHeartbeats 4000000 in
theorem eventsR_c (m : Md) (P : MdP) (w : World) (hm : m.Ok) (hA : Md.At w m P) :
 Calls Try.prog 32 #[.agg (m.cells P).toArray] w (GivesEl m.all w) := by
 have h32 := hm.len32
 have HF := Lib.hid (evL_fin hm)
 have HA := Lib.hid hA
 obtain ⟨p,B,d⟩ := P
 clear hm hA
 go_enter Try.func32,Try.ntmps32
 obtain ⟨mb,hmb⟩ : ∃ g,g = w.heap.size := ⟨_,rfl⟩
 go_upto_region 1 with fail
 rw [← hmb]
 refine wp_world (fun W => Hid (Sep w.heap.size w [eInts [] (.slice none 0 0),eBlk mb 37 [.slice p.A1 m.a.al.length p.c1,.int .i64 m.a.n,.slice p.A2 m.a.mr.length p.c2,.slice p.A3 m.a.ed.length p.c3,.slice B m.ac.length d,.int .i64 m.tk]] W)) (((Sep.here w).alloc' _ [_,_,_,_,_,_] rfl hmb).nilOwn encI 1 3) fun W S => ?_
 have S0 := Lib.hid S.out
 clear S hmb
 have H00 : Hid ((evL m 0).1 = []) := rfl
 have H01 : Hid ((evL m 0).2 = false) := rfl
 go_wp2_with fail
 go_loopw [3,4,5] (fun v b i wr => ∃ (k : Nat) (A0 : Option Addr) (c0 : Nat),i = .int .i64 (k : Int) ∧ v = .slice A0 (evL m k).1.length c0 ∧ b = .bool (evL m k).2 ∧ k ≤ m.ac.length ∧ Hid (Sep w.heap.size w [eInts (evL m k).1 (.slice A0 (evL m k).1.length c0),eBlk mb 37 [.slice p.A1 m.a.al.length p.c1,.int .i64 m.a.n,.slice p.A2 m.a.mr.length p.c2,.slice p.A3 m.a.ed.length p.c3,.slice B m.ac.length d,.int .i64 m.tk]] wr)) (fun _ _ i _ => m.ac.length - (intOf i).toNat)
 case atStart => exact ⟨0,none,0,rfl,by rw [H00.out]; rfl,by rw [H01.out],Nat.zero_le _,by rw [H00.out]; exact S0.out⟩
 case round =>
  clear S0
  obtain ⟨k,A0,c0,rfl,rfl,rfl,hk,S⟩ := hrel
  have b2 := BlkAt.cell (S.out.get 1 rfl) 2; have b4 := BlkAt.cell (S.out.get 1 rfl) 4; have b5 := BlkAt.cell (S.out.get 1 rfl) 5; simp only [List.getElem?_cons_succ,List.getElem?_cons_zero] at b2 b4 b5
  obtain ⟨l,hl⟩ : ∃ l,l = (evL m k).1 := ⟨_,rfl⟩
  obtain ⟨b,hb⟩ : ∃ b,b = (evL m k).2 := ⟨_,rfl⟩
  rw [← hl] at S
  rw [← hl,← hb]
  have HLN : Hid (l.length ≤ 64) := by have := evL_len m k; rw [Hid,hl]; omega
  by_cases hlt : k < m.ac.length
  · obtain ⟨gb,ob2,x,hB,hgb,hx,x0,x1,x2⟩ := AcsAt.at (HA.out.ac.below AcE.stays S.out.below) hlt
    dsimp only at hB
    subst hB
    have hev : m.ev k = x.ev := Md.ev_get hx
    have HNX : Hid (evL m (k + 1) = if (!b && decide (m.tk < x.ev)) = true then (l ++ [m.tk] ++ [x.ev],true) else (l ++ [x.ev],b)) := by rw [Hid,← hev,hl,hb]; rfl
    have XC : Hid (∀ W : World,Below w.heap.size w W → W.cell? ⟨gb,ob2 + k * 3,none⟩ = some (.int .i64 x.ev)) := fun W hb => ((HA.out.below hb).ac.cell3 hx).1
    have hwr : IntKind.i64.wrap ((k : Int) + 1) = (k : Int) + 1 := IntWalk.i64_in _ (by omega)
    clear hx hev hgb hl hb x1 x2
    go_upto_region 6 with fail
    go_cut [25] (fun v wx => v = .bool (!b && decide (m.tk < x.ev)) ∧ Hid (Sep w.heap.size w [eInts l (.slice A0 l.length c0),eBlk mb 37 [.slice p.A1 m.a.al.length p.c1,.int .i64 m.a.n,.slice p.A2 m.a.mr.length p.c2,.slice p.A3 m.a.ed.length p.c3,.slice (some ⟨gb,ob2,none⟩) m.ac.length d,.int .i64 m.tk]] wx))
    case first =>
     cases b
     · by_cases ht : m.tk < x.ev
       · have hd : decide (m.tk < x.ev) = true := decide_eq_true ht
         clear ht
         go_quiet (fail)
         go_wp2_with fail
         go_meet
         exact ⟨by rw [hd]; rfl,S.out.draws _⟩
       · have hd : decide (m.tk < x.ev) = false := decide_eq_false ht
         clear ht
         go_quiet (fail)
         go_wp2_with fail
         go_meet
         exact ⟨by rw [hd]; rfl,S.out.draws _⟩
     · go_quiet (fail)
       go_wp2_with fail
       go_meet
       exact ⟨rfl,S.out.draws _⟩
    case rest =>
     clear S b2 b4 b5 x0
     obtain ⟨rfl,S⟩ := hcut
     have b0 := BlkAt.cell (S.out.get 1 rfl) 0; have b1 := BlkAt.cell (S.out.get 1 rfl) 1; have b2 := BlkAt.cell (S.out.get 1 rfl) 2; have b3 := BlkAt.cell (S.out.get 1 rfl) 3; have b4 := BlkAt.cell (S.out.get 1 rfl) 4; have b5 := BlkAt.cell (S.out.get 1 rfl) 5; simp only [List.getElem?_cons_succ,List.getElem?_cons_zero] at b0 b1 b2 b3 b4 b5
     obtain ⟨q,hq⟩ : ∃ q,q = (!b && decide (m.tk < x.ev)) := ⟨_,rfl⟩
     rw [← hq] at HNX ⊢
     have HQ := Lib.hid hq
     clear hq
     cases q
     · have HN : Hid (evL m (k + 1) = (l ++ [x.ev],b)) := by rw [Hid,HNX.out]; rfl
       clear HNX
       have x0 := XC.out wc S.out.below
       have hln : (l).length ≤ 66 := by have := HLN.out; omega
       go_wp2_with (at_builtin; refine wpList_pushS rfl _ _ 31 rfl (S.out.alloc 3 [.int .i64 x.ev]) 1 rfl Try.underlying31 _ 8 intInfo rfl (by decide) rfl x.ev _ rfl rfl (one_cell _ _ [_] _ rfl) (encI_one _) (by omega) (by decide) ?_)
       intro A' c' w6 S6 _
       have S7 := Lib.hid S6.drop1
       clear S6 S x0 b0 b1 b2 b3 b4 b5
       go_wp2_with fail
       go_roundw
       case rel => exact ⟨k + 1,A',c',by go_num,by rw [HN.out,List.length_append]; rfl,by rw [HN.out],by omega,by rw [HN.out,List.length_append]; exact S7.out⟩
       case measure => simp [intOf]; omega
     · have HN : Hid (evL m (k + 1) = (l ++ [m.tk] ++ [x.ev],true)) := by rw [Hid,HNX.out]; rfl
       clear HNX
       have hln : (l).length ≤ 66 := by have := HLN.out; omega
       go_wp2_with (at_builtin; refine wpList_pushS rfl _ _ 31 rfl (S.out.alloc 3 [.int .i64 m.tk]) 1 rfl Try.underlying31 _ 8 intInfo rfl (by decide) rfl m.tk _ rfl rfl (one_cell _ _ [_] _ rfl) (encI_one _) (by omega) (by decide) ?_)
       intro A1 c1 w5 S6 _
       have S7 : Hid (Sep w.heap.size w [eInts (l ++ [m.tk]) (.slice A1 (l ++ [m.tk]).length c1),eBlk mb 37 [.slice p.A1 m.a.al.length p.c1,.int .i64 m.a.n,.slice p.A2 m.a.mr.length p.c2,.slice p.A3 m.a.ed.length p.c3,.slice (some ⟨gb,ob2,none⟩) m.ac.length d,.int .i64 m.tk]] w5) := by rw [List.length_append]; exact S6.drop1
       have HL1 : Hid (l.length + 1 = (l ++ [m.tk]).length) := by rw [Hid,List.length_append]; rfl
       clear S6 S hln b0 b1 b2 b3 b4 b5
       rw [HL1.out]
       have b0 := BlkAt.cell (S7.out.get 1 rfl) 0; have b1 := BlkAt.cell (S7.out.get 1 rfl) 1; have b2 := BlkAt.cell (S7.out.get 1 rfl) 2; have b3 := BlkAt.cell (S7.out.get 1 rfl) 3; have b4 := BlkAt.cell (S7.out.get 1 rfl) 4; have b5 := BlkAt.cell (S7.out.get 1 rfl) 5; simp only [List.getElem?_cons_succ,List.getElem?_cons_zero] at b0 b1 b2 b3 b4 b5
       have x0 := XC.out w5 S7.out.below
       obtain ⟨l1,hl1⟩ : ∃ l1,l1 = l ++ [m.tk] := ⟨_,rfl⟩
       rw [← hl1] at S7 HN ⊢
       have HLN2 : Hid (l1.length ≤ 65) := by have := HLN.out; rw [Hid,hl1,List.length_append,List.length_singleton]; omega
       clear HL1 hl1 HLN
       have HLN := HLN2
       have hln : (l1).length ≤ 66 := by have := HLN.out; omega
       go_wp2_with (at_builtin; refine wpList_pushS rfl _ _ 31 rfl (S7.out.alloc 3 [.int .i64 x.ev]) 1 rfl Try.underlying31 _ 8 intInfo rfl (by decide) rfl x.ev _ rfl rfl (one_cell _ _ [_] _ rfl) (encI_one _) (by omega) (by decide) ?_)
       intro A' c' w6 S6 _
       have S8 := Lib.hid S6.drop1
       clear S6 S7 x0 b0 b1 b2 b3 b4 b5
       go_wp2_with fail
       go_roundw
       case rel => exact ⟨k + 1,A',c',by go_num,by rw [HN.out,List.length_append]; rfl,by rw [HN.out],by omega,by rw [HN.out,List.length_append]; exact S8.out⟩
       case measure => simp [intOf]; omega
  · obtain rfl : k = m.ac.length := by omega
    rw [← hl,← hb] at HF
    clear hl hb
    cases b
    · have HF2 : Hid (l ++ [m.tk] = m.all) := HF.out
      have hln : (l).length ≤ 66 := by have := HLN.out; omega
      go_wp2_with (at_builtin; refine wpList_pushS rfl _ _ 31 rfl (S.out.alloc 3 [.int .i64 m.tk]) 1 rfl Try.underlying31 _ 8 intInfo rfl (by decide) rfl m.tk _ rfl rfl (one_cell _ _ [_] _ rfl) (encI_one _) (by omega) (by decide) ?_)
      intro A1 c1 w5 S6 _
      have S7 : Hid (Sep w.heap.size w [eInts m.all (.slice A1 m.all.length c1),eBlk mb 37 [.slice p.A1 m.a.al.length p.c1,.int .i64 m.a.n,.slice p.A2 m.a.mr.length p.c2,.slice p.A3 m.a.ed.length p.c3,.slice B m.ac.length d,.int .i64 m.tk]] w5) := by rw [← HF2.out,List.length_append]; exact S6.drop1
      have HL1 : Hid (l.length + 1 = m.all.length) := by rw [Hid,← HF2.out,List.length_append]; rfl
      clear S6 S hln b2 b4 b5
      rw [HL1.out]
      go_wp2_with fail
      go_ret
      exact ⟨A1,c1,rfl,S7.out.first⟩
    · have HF2 : Hid (l = m.all) := HF.out
      rw [HF2.out] at S ⊢
      go_wp2_with fail
      go_ret
      exact ⟨A0,c0,rfl,S.out.first⟩
end Go.Proofs.Ytimdepdbcdbikaa
