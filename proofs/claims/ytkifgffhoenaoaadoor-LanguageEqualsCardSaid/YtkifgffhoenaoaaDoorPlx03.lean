/-
  overseerref09.Included and Least.
  overseerlaw09.Make: two described automata.
  overseerlaw09.LanguageIncludes.
-/
import Derived.Test.YtkifgffhoenaoaaDoorBas01
import Derived.Test.YtkifgffhoenaoaaDoorPlx02
import Derived.Test.YtkifgffhoenaoaaDoorBas17
import Derived.Test.YtkifgffhoenaoaaDoorBas18
set_option linter.unusedSimpArgs false
set_option linter.unusedVariables false
namespace Go.Proofs.YtkifgffhoenaoaaDoor
open Go.RowKit
set_option maxRecDepth 100000
theorem has9_e (a : Au) (p : AuP) (s kind : Int) (r : Bool) (w : World) (h2 : IntsAt w p.A2 a.mr) (l2 : a.mr.length ≤ 140737488355328) (h : inV a s kind = r) : Calls Tryd.prog 44 #[a.val p,.int .i64 s,.int .i64 kind] w (Ret (.bool r) w) := h ▸ has9_c a p s kind w h2 l2
def Gives9 (a b : Au) (P : Int × Int → Bool) (w : World) (e : Ending) (w' : World) : Prop := ∃ (A : Option Addr) (c : Nat) (l : List Int) (f : Bool),e = .returned (.tuple #[.slice A l.length c,.bool f]) ∧ Hid (IntsAt w' A l) ∧ Below w.heap.size w w' ∧ l.length ≤ 1000000 ∧
 Hid (f = true ∧ LeastW (LeadsTo (stp2 a b) (a.st,b.st) (unionV a.al b.al) (fun q => P q = true)) l ∨ f = false ∧ l = [] ∧ ∀ u,¬ LeadsTo (stp2 a b) (a.st,b.st) (unionV a.al b.al) (fun q => P q = true) u)
def inc9 (a b : Au) (kind : Int) (both : Bool) (q : Int × Int) : Bool := (inV a q.1 kind && !inV b q.2 kind) || (both && inV b q.2 kind && !inV a q.1 kind)
theorem PAll.word {a b : Au} {evs : List Int} {l : List Pr} (h : PAll a b evs l) {j : Nat} {p : Pr} (hp : l[j]? = some p) : p.w.length ≤ j := by
 rcases h with ⟨_,_,rfl⟩ | h
 · simp at hp
 · exact h.word hp
set_option maxHeartbeats 16000000 in
theorem inc9_c (a b : Au) (p q : AuP) (kind : Int) (both : Bool) (w : World) (ha : a.Right) (hb : b.Right) (hA : Au.At w a p) (hB : Au.At w b q) (hN : (a.n.toNat + 1) * (b.n.toNat + 1) ≤ 1000000) :
 Calls Tryd.prog 16 #[a.val p,b.val q,.int .i64 kind,.bool both] w (Gives9 a b (inc9 a b kind both) w) := by
 have HRA := Lib.hid ha
 have HRB := Lib.hid hb
 have HA := Lib.hid hA
 have HB := Lib.hid hB
 have HD : Hid (¬ inc9 a b kind both (-1,-1) = true) := by simp [Hid,inc9,inV]
 obtain ⟨al,n,mr,ed⟩ := a
 obtain ⟨A1,c1,A2,c2,A3,c3⟩ := p
 obtain ⟨bl,k,ms,es⟩ := b
 obtain ⟨B1,d1,B2,d2,B3,d3⟩ := q
 try dsimp only [Au.val] at *
 clear ha hb hA hB
 go_enter Tryd.func16,Tryd.ntmps16
 go_upto_region 1 with fail
 refine wp_world (fun W => Sep w.heap.size w [eBlk (w.heap.size + 1) 35 [.slice B1 bl.length d1,.int .i64 k,.slice B2 ms.length d2,.slice B3 es.length d3],eBlk w.heap.size 35 [.slice A1 al.length c1,.int .i64 n,.slice A2 mr.length c2,.slice A3 ed.length c3]] W) ?_ fun W S => ?_
 · exact ((Sep.here w).alloc' _ [_,_,_,_] rfl rfl).alloc' _ [_,_,_,_] rfl (by simp)
 have S0 := Lib.hid S
 clear S
 have a0 := ckC S0.out 1 rfl 0 rfl
 have a1 := ckC S0.out 1 rfl 1 rfl
 have a2 := ckC S0.out 1 rfl 2 rfl
 have a3 := ckC S0.out 1 rfl 3 rfl
 have b0 := ckC S0.out 0 rfl 0 rfl
 have b1 := ckC S0.out 0 rfl 1 rfl
 have b2 := ckC S0.out 0 rfl 2 rfl
 have b3 := ckC S0.out 0 rfl 3 rfl
 go_wp2_with fail
 refine (pairs_c ⟨al,n,mr,ed⟩ ⟨bl,k,ms,es⟩ ⟨A1,c1,A2,c2,A3,c3⟩ ⟨B1,d1,B2,d2,B3,d3⟩ W HRA.out HRB.out (HA.out.below S0.out.below) (HB.out.below S0.out.below) hN).mono ?_
 rintro e W1 ⟨raw,l,AR,cR,fs,rfl,T,PL,PS⟩
 have S1 := ckN S0.out T.out
 clear T S0 PS a0 a1 a2 a3 b0 b1 b2 b3
 have hrl : Hid (raw.length = l.length) := (S1.out.get 0 rfl).1
 have hlen : raw.length ≤ 1000000 := by rw [hrl.out]; exact Nat.le_trans (PL.out.len HRA.out HRB.out) hN
 go_wp2_with fail
 go_loopw [11,12,13] (fun x _ _ wr => ∃ (i : Nat),x = .int .i64 (i : Int) ∧ i ≤ raw.length ∧ Hid (∀ j q,j < i → l[j]? = some q → ¬ inc9 ⟨al,n,mr,ed⟩ ⟨bl,k,ms,es⟩ kind both q.pr = true) ∧ Hid (Sep w.heap.size w [eWds fs raw l,eOwn PrV.cells 3 82 raw (.slice AR raw.length cR),eBlk (w.heap.size + 1) 35 [.slice B1 bl.length d1,.int .i64 k,.slice B2 ms.length d2,.slice B3 es.length d3],eBlk w.heap.size 35 [.slice A1 al.length c1,.int .i64 n,.slice A2 mr.length c2,.slice A3 ed.length c3]] wr)) (fun x _ _ _ => raw.length - (intOf x).toNat)
 case atStart => exact ⟨0,rfl,Nat.zero_le _,fun j q h => absurd h (Nat.not_lt_zero _),S1.out⟩
 case round =>
  clear S1
  obtain ⟨i,rfl,hi,HNO,S⟩ := hrel
  by_cases hlt : i < raw.length
  · obtain ⟨gR,oR,r,rfl,hr⟩ := S.out.prs 1 rfl hlt
    obtain ⟨p,hp⟩ : ∃ p,l[i]? = some p := ⟨_,List.getElem?_eq_getElem (by rw [← hrl.out]; exact hlt)⟩
    obtain ⟨rx,ry,hwn,hwd⟩ := (S.out.get 0 rfl).2.2 i r p hr hp
    have HWD := Lib.hid (WdAt.ints (r := r) ⟨hwn,hwd⟩ (S.out.get 0 rfl).2.1)
    obtain ⟨rX,rY,rA,rn_,rc⟩ := r
    dsimp only at rx ry hwn hwd HWD
    subst rx ry hwn
    obtain ⟨hx1,hxe⟩ : ∃ x,inV ⟨al,n,mr,ed⟩ p.x kind = x := ⟨_,rfl⟩
    obtain ⟨hy1,hye⟩ : ∃ x,inV ⟨bl,k,ms,es⟩ p.y kind = x := ⟨_,rfl⟩
    have HX1 := Lib.hid hxe
    have HY1 := Lib.hid hye
    have hpw : p.w.length ≤ i := PL.out.word hp
    have HPP : Hid (inc9 ⟨al,n,mr,ed⟩ ⟨bl,k,ms,es⟩ kind both p.pr = ((hx1 && !hy1) || (both && hy1 && !hx1))) := by rw [← hxe,← hye]; rfl
    clear hxe hye hwd
    have S5 := S
    clear S
    go_upto_region 5 with fail
    go_cut [12,13] (fun x y wx => x = .bool hx1 ∧ y = .bool hy1 ∧ Hid (Sep w.heap.size w [eWds fs raw l,eOwn PrV.cells 3 82 raw (.slice (some ⟨gR,oR,none⟩) raw.length cR),eBlk (w.heap.size + 1) 35 [.slice B1 bl.length d1,.int .i64 k,.slice B2 ms.length d2,.slice B3 es.length d3],eBlk w.heap.size 35 [.slice A1 al.length c1,.int .i64 n,.slice A2 mr.length c2,.slice A3 ed.length c3]] wx))
    case first =>
     have S1 := Lib.hid S5.out.drew
     refine wp_region_held_drew (S := (fun V => Sep w.heap.size w [eOwn PrV.cells 3 82 raw (.slice (some ⟨gR,oR,none⟩) raw.length cR),eBlk (w.heap.size + 1) 35 [.slice B1 bl.length d1,.int .i64 k,.slice B2 ms.length d2,.slice B3 es.length d3],eBlk w.heap.size 35 [.slice A1 al.length c1,.int .i64 n,.slice A2 mr.length c2,.slice A3 ed.length c3]] V)) (by kernel_rfl) ?_ (fun hHeld => ?_)
     · exact S1.out.pick [1,2,3] (by decide)
     generalize hwz : wr.drew = w1 at *
     clear hwz
     refine tkH 0 rfl (v := ?_) (by kernel_rfl) ?_ hHeld ?_
     rotate_left
     · intro V hSw
       have a0 := ckC hSw 2 rfl 0 rfl
       have a1 := ckC hSw 2 rfl 1 rfl
       have a2 := ckC hSw 2 rfl 2 rfl
       have a3 := ckC hSw 2 rfl 3 rfl
       clear hSw
       first | (go_simp; done) | (go_simp; with_reducible rfl)
     try simp only [sx]
     refine tkP 1 rfl (v := ?_) hHeld ?_
     try simp only [sx]
     refine tkP 2 rfl (v := ?_) hHeld ?_
     try simp only [sx]
     refine tkP 3 rfl (v := ?_) hHeld ?_
     try simp only [sx]
     refine tkP 4 rfl (v := ?_) hHeld ?_
     try simp only [sx]
     refine tkH 5 rfl (v := ?_) (by kernel_rfl) ?_ hHeld ?_
     rotate_left
     · intro V hSw
       have b0 := (Sep.prAt (show Sep w.heap.size w _ V from hSw) 0 rfl hr).1
       clear hSw
       first | (go_simp; done) | (go_simp; with_reducible rfl)
     try simp only [sx]
     refine tkP 6 rfl (v := ?_) hHeld ?_
     try simp only [sx]
     refine tkH 8 rfl (v := ?_) (by kernel_rfl) ?_ hHeld ?_
     rotate_left
     · intro V hSw
       have b0 := ckC hSw 1 rfl 0 rfl
       have b1 := ckC hSw 1 rfl 1 rfl
       have b2 := ckC hSw 1 rfl 2 rfl
       have b3 := ckC hSw 1 rfl 3 rfl
       clear hSw
       first | (go_simp; done) | (go_simp; with_reducible rfl)
     try simp only [sx]
     refine tkP 9 rfl (v := ?_) hHeld ?_
     try simp only [sx]
     refine tkP 10 rfl (v := ?_) hHeld ?_
     try simp only [sx]
     refine tkP 11 rfl (v := ?_) hHeld ?_
     try simp only [sx]
     refine tkP 12 rfl (v := ?_) hHeld ?_
     try simp only [sx]
     refine tkH 13 rfl (v := ?_) (by kernel_rfl) ?_ hHeld ?_
     rotate_left
     · intro V hSw
       have b1 := (Sep.prAt (show Sep w.heap.size w _ V from hSw) 0 rfl hr).2.1
       clear hSw
       first | (go_simp; done) | (go_simp; with_reducible rfl)
     try simp only [sx]
     refine tkP 14 rfl (v := ?_) hHeld ?_
     try simp only [sx]
     refine rdH 7 rfl fun K hK => ?_
     go_simp
     refine (has9_e ⟨al,n,mr,ed⟩ ⟨A1,c1,A2,c2,A3,c3⟩ p.x kind hx1 w1 (HA.out.below S1.out.below).mr HA.out.lmk HX1.out).mono ?_
     rintro e w2 ⟨rfl,hb⟩
     have S2 := Lib.hid (S1.out.next hb)
     clear hb
     refine hK.out _ _ ?_ (fun hHeld => ?_)
     · exact S2.out.pick [1,2,3] (by decide)
     clear hK K
     try simp only [sx]
     refine rdH 15 rfl fun K hK => ?_
     go_simp
     refine (has9_e ⟨bl,k,ms,es⟩ ⟨B1,d1,B2,d2,B3,d3⟩ p.y kind hy1 w2 (HB.out.below S2.out.below).mr HB.out.lmk HY1.out).mono ?_
     rintro e w3 ⟨rfl,hb⟩
     have S3 := Lib.hid (S2.out.next hb)
     clear hb
     refine hK.out _ _ ?_ (fun hHeld => ?_)
     · exact S3.out.pick [1,2,3] (by decide)
     clear hK K
     try simp only [sx]
     refine tkP 16 rfl (v := ?_) hHeld ?_
     try simp only [sx]
     refine tkP 17 rfl (v := ?_) hHeld ?_
     try simp only [sx]
     refine wpAnyH_done (by kernel_rfl) ?_ _
     go_wp2_with fail
     go_meet
     exact ⟨rfl,rfl,S3.out⟩
    case rest =>
     obtain ⟨rfl,rfl,S6⟩ := hcut
     have HWE : Hid (IntsAt wc rA p.w) := by
      obtain ⟨_,_,h⟩ := (S6.out.get 0 rfl).2.2 i _ p hr hp
      exact WdAt.ints h (S6.out.get 0 rfl).2.1
     have c2' := (S6.out.prAt 1 rfl hr).2.2
     clear S5 HWD
     obtain ⟨pp,hpp⟩ : ∃ pp,((hx1 && !hy1) || (both && hy1 && !hx1)) = pp := ⟨_,rfl⟩
     rw [hpp] at HPP
     have yes : pp = true → Hid (LeastW (LeadsTo (stp2 ⟨al,n,mr,ed⟩ ⟨bl,k,ms,es⟩) (Au.st ⟨al,n,mr,ed⟩,Au.st ⟨bl,k,ms,es⟩) (unionV al bl) (fun q => inc9 ⟨al,n,mr,ed⟩ ⟨bl,k,ms,es⟩ kind both q = true)) p.w) := fun h => PL.out.least HRA.out HRB.out (P := fun q => inc9 ⟨al,n,mr,ed⟩ ⟨bl,k,ms,es⟩ kind both q = true) HD.out HNO.out hp (HPP.out.trans h)
     have no : pp = false → Hid (∀ j q,j < i + 1 → l[j]? = some q → ¬ inc9 ⟨al,n,mr,ed⟩ ⟨bl,k,ms,es⟩ kind both q.pr = true) := fun h j q hj hq => by
      by_cases e : j = i
      · subst e
        rw [hp] at hq; cases hq
        rw [HPP.out,h]; simp
      · exact HNO.out j q (by omega) hq
     have hwl : p.w.length ≤ 1000000 := by omega
     cases both <;> cases hx1 <;> cases hy1
     all_goals
      simp only [Bool.not_true,Bool.not_false,Bool.and_true,Bool.and_false,Bool.true_and,Bool.false_and,Bool.or_false,Bool.false_or,Bool.or_true,Bool.true_or] at hpp
      subst hpp
      first
      | (have HY := yes rfl
         clear yes no HPP HNO
         go_wp2_with fail
         refine bodyPost_ret (v := .tuple #[.slice rA p.w.length rc,.bool true]) (by simp [results,Tryd.results16,go_sem]) rfl ?_
         exact ⟨rA,rc,p.w,true,rfl,HWE.out,S6.out.below,hwl,.inl ⟨rfl,HY.out⟩⟩)
      | (have HZ := no rfl
         clear yes no HPP HNO
         go_wp2_with fail
         go_roundw
         case rel => exact ⟨i + 1,by go_num,by omega,HZ.out,S6.out⟩
         case measure => simp [intOf]; omega)
  · obtain rfl : i = raw.length := by omega
    have HZ : Hid (∀ u,¬ LeadsTo (stp2 ⟨al,n,mr,ed⟩ ⟨bl,k,ms,es⟩) (Au.st ⟨al,n,mr,ed⟩,Au.st ⟨bl,k,ms,es⟩) (unionV al bl) (fun q => inc9 ⟨al,n,mr,ed⟩ ⟨bl,k,ms,es⟩ kind both q = true) u) := fun u => PL.out.none_ HRA.out HRB.out (P := fun q => inc9 ⟨al,n,mr,ed⟩ ⟨bl,k,ms,es⟩ kind both q = true) HD.out (fun j q hq => HNO.out j q (by have := (List.getElem?_eq_some_iff.1 hq).1; rw [hrl.out]; exact this) hq) u
    clear HNO
    go_wp2_with fail
    refine bodyPost_ret (v := .tuple #[.slice none 0 0,.bool false]) (by simp [results,Tryd.results16,go_sem]) rfl ?_
    exact ⟨none,0,[],false,rfl,SlAt.nil,S.out.below,by simp,.inr ⟨rfl,rfl,HZ.out⟩⟩
set_option maxHeartbeats 4000000 in
theorem make9_c (s0 s1 : Int) (g0 g1 : Gr) (w : World) (h0 : 0 ≤ s0 ∧ s0 < 256) (h1 : 0 ≤ s1 ∧ s1 < 256) (hg0 : g0.Ok) (hg1 : g1.Ok) :
 Calls Tryd.prog 14 #[.agg (twoCells s0 s1 g0 g1).toArray] w (GivesTwo s0 s1 w) := by
 have H0 := Lib.hid h0
 have H1 := Lib.hid h1
 have HG0 := Lib.hid hg0
 have HG1 := Lib.hid hg1
 clear h0 h1 hg0 hg1
 go_enter Tryd.func14,Tryd.ntmps14
 generalize hcs : twoCells s0 s1 g0 g1 = cs
 go_upto_region 1 with fail
 refine wp_world (fun W => Sep w.heap.size w [eBlk (w.heap.size + 2) 35 [.slice none 0 0,.int .i64 0,.slice none 0 0,.slice none 0 0],eBlk (w.heap.size + 1) 35 [.slice none 0 0,.int .i64 0,.slice none 0 0,.slice none 0 0],eBlk w.heap.size 30 cs] W) ?_ fun W0 S => ?_
 · exact ((((Sep.here w).alloc' _ cs rfl rfl).alloc' _ [_,_,_,_] rfl (by simp)).alloc' _ [_,_,_,_] rfl (by simp))
 rw [← hcs] at S
 have S0 := Lib.hid S
 clear S hcs
 have S1 := Lib.hid S0.out.drew
 refine wp_region_held_drew (S := (fun V => Sep w.heap.size w [eBlk w.heap.size 30 (twoCells s0 s1 g0 g1)] V)) (by kernel_rfl) ?_ (fun hHeld => ?_)
 · exact S1.out.pick [2] (by decide)
 generalize hwz : W0.drew = w1 at *
 clear hwz
 refine tkP 0 rfl (v := ?_) hHeld ?_
 try simp only [List.getElem_toArray,List.getElem_cons_zero,List.getElem_cons_succ,Act.put,List.setIfInBounds_toArray,List.set_cons_zero,List.set_cons_succ]
 refine tkP 1 rfl (v := ?_) hHeld ?_
 try simp only [List.getElem_toArray,List.getElem_cons_zero,List.getElem_cons_succ,Act.put,List.setIfInBounds_toArray,List.set_cons_zero,List.set_cons_succ]
 refine tkH 2 rfl (v := ?_) (by kernel_rfl) ?_ hHeld ?_
 rotate_left
 · intro V hSw
   have c0 := BlkAt.cell (Sep.get (show Sep w.heap.size w _ V from hSw) 0 rfl) 0
   rw [show (twoCells s0 s1 g0 g1)[0]? = some (.int .u8 s0) from rfl] at c0
   clear hSw
   first | (go_simp; done) | (go_simp; with_reducible rfl)
 try simp only [List.getElem_toArray,List.getElem_cons_zero,List.getElem_cons_succ,Act.put,List.setIfInBounds_toArray,List.set_cons_zero,List.set_cons_succ]
 refine tkP 4 rfl (v := ?_) hHeld ?_
 try simp only [List.getElem_toArray,List.getElem_cons_zero,List.getElem_cons_succ,Act.put,List.setIfInBounds_toArray,List.set_cons_zero,List.set_cons_succ]
 refine tkP 5 rfl (v := ?_) hHeld ?_
 try simp only [List.getElem_toArray,List.getElem_cons_zero,List.getElem_cons_succ,Act.put,List.setIfInBounds_toArray,List.set_cons_zero,List.set_cons_succ]
 refine wpAnyH_take (i := 6) (v := _) rfl (by kernel_rfl) (by kernel_rfl) (by kernel_rfl) (fun _ _ _ h => h) (yieldsIf_load_mid (by kernel_rfl) 27 (.tmp 9) rfl w.heap.size 2 rfl g0.cells _ (fun V hSw => BlkAt.rng (Sep.get (show Sep w.heap.size w _ V from hSw) 0 rfl) (two2 s0 s1 g0 g1)) Tryd.underlying27 rfl (by kernel_rfl)) hHeld ?_
 try simp only [List.getElem_toArray,List.getElem_cons_zero,List.getElem_cons_succ,Act.put,List.setIfInBounds_toArray,List.set_cons_zero,List.set_cons_succ]
 refine tkP 8 rfl (v := ?_) hHeld ?_
 try simp only [List.getElem_toArray,List.getElem_cons_zero,List.getElem_cons_succ,Act.put,List.setIfInBounds_toArray,List.set_cons_zero,List.set_cons_succ]
 refine tkP 9 rfl (v := ?_) hHeld ?_
 try simp only [List.getElem_toArray,List.getElem_cons_zero,List.getElem_cons_succ,Act.put,List.setIfInBounds_toArray,List.set_cons_zero,List.set_cons_succ]
 refine tkH 10 rfl (v := ?_) (by kernel_rfl) ?_ hHeld ?_
 rotate_left
 · intro V hSw
   have c1 := BlkAt.cell (Sep.get (show Sep w.heap.size w _ V from hSw) 0 rfl) 1
   rw [show (twoCells s0 s1 g0 g1)[1]? = some (.int .u8 s1) from rfl] at c1
   clear hSw
   first | (go_simp; done) | (go_simp; with_reducible rfl)
 try simp only [List.getElem_toArray,List.getElem_cons_zero,List.getElem_cons_succ,Act.put,List.setIfInBounds_toArray,List.set_cons_zero,List.set_cons_succ]
 refine tkP 12 rfl (v := ?_) hHeld ?_
 try simp only [List.getElem_toArray,List.getElem_cons_zero,List.getElem_cons_succ,Act.put,List.setIfInBounds_toArray,List.set_cons_zero,List.set_cons_succ]
 refine tkP 13 rfl (v := ?_) hHeld ?_
 try simp only [List.getElem_toArray,List.getElem_cons_zero,List.getElem_cons_succ,Act.put,List.setIfInBounds_toArray,List.set_cons_zero,List.set_cons_succ]
 refine wpAnyH_take (i := 14) (v := _) rfl (by kernel_rfl) (by kernel_rfl) (by kernel_rfl) (fun _ _ _ h => h) (yieldsIf_load_mid (by kernel_rfl) 27 (.tmp 17) rfl w.heap.size 29 rfl g1.cells _ (fun V hSw => BlkAt.rng (Sep.get (show Sep w.heap.size w _ V from hSw) 0 rfl) (two29 s0 s1 g0 g1)) Tryd.underlying27 rfl (by kernel_rfl)) hHeld ?_
 try simp only [List.getElem_toArray,List.getElem_cons_zero,List.getElem_cons_succ,Act.put,List.setIfInBounds_toArray,List.set_cons_zero,List.set_cons_succ]
 refine rdH 3 rfl fun K hK => ?_
 go_simp
 refine (events_c s0 w1 H0.out.1 H0.out.2).mono ?_
 rintro e w2 ⟨v,rfl,O,hb⟩
 obtain ⟨Aea,cea,rfl⟩ := Own.form O.out
 have S2 : Hid (Sep w.heap.size w [eInts (evV s0 5) (.slice Aea (evV s0 5).length cea),eBlk (w.heap.size + 2) 35 [.slice none 0 0,.int .i64 0,.slice none 0 0,.slice none 0 0],eBlk (w.heap.size + 1) 35 [.slice none 0 0,.int .i64 0,.slice none 0 0,.slice none 0 0],eBlk w.heap.size 30 (twoCells s0 s1 g0 g1)] w2) := S1.out.newI O.out hb
 clear O hb
 refine hK.out _ _ ?_ (fun hHeld => ?_)
 · exact S2.out.pick [3] (by decide)
 clear hK K
 try simp only [List.getElem_toArray,List.getElem_cons_zero,List.getElem_cons_succ,Act.put,List.setIfInBounds_toArray,List.set_cons_zero,List.set_cons_succ]
 refine rdH 7 rfl fun K hK => ?_
 go_simp
 refine (make3_c Aea cea (evV s0 5) g0 w2 (S2.out.ints 0 rfl) (evV_lt5 s0 5) (fun e => Own.none (S2.out.get 0 rfl) e) HG0.out).mono ?_
 rintro e w3 ⟨a,p,rfl,hr,ha,hn,hed,hmr,HAO,hb⟩
 have FA : Hid (Gd s0 a) := ⟨hr,ha,hn,hed,hmr⟩
 have S3 : Hid (Sep w.heap.size w [eInts a.al (.slice p.A1 a.al.length p.c1),eInts a.mr (.slice p.A2 a.mr.length p.c2),eEds a.ed (.slice p.A3 a.ed.length p.c3),eInts (evV s0 5) (.slice Aea (evV s0 5).length cea),eBlk (w.heap.size + 2) 35 [.slice none 0 0,.int .i64 0,.slice none 0 0,.slice none 0 0],eBlk (w.heap.size + 1) 35 [.slice none 0 0,.int .i64 0,.slice none 0 0,.slice none 0 0],eBlk w.heap.size 30 (twoCells s0 s1 g0 g1)] w3) := S2.out.news (AuOwn.sep HAO.out hb)
 clear HAO hb hr ha hn hed hmr
 refine hK.out _ _ ?_ (fun hHeld => ?_)
 · exact S3.out.pick [6] (by decide)
 clear hK K
 try simp only [List.getElem_toArray,List.getElem_cons_zero,List.getElem_cons_succ,Act.put,List.setIfInBounds_toArray,List.set_cons_zero,List.set_cons_succ]
 refine rdH 11 rfl fun K hK => ?_
 go_simp
 refine (events_c s1 w3 H1.out.1 H1.out.2).mono ?_
 rintro e w4 ⟨v,rfl,O,hb⟩
 obtain ⟨Aeb,ceb,rfl⟩ := Own.form O.out
 have S4 : Hid (Sep w.heap.size w [eInts (evV s1 5) (.slice Aeb (evV s1 5).length ceb),eInts a.al (.slice p.A1 a.al.length p.c1),eInts a.mr (.slice p.A2 a.mr.length p.c2),eEds a.ed (.slice p.A3 a.ed.length p.c3),eInts (evV s0 5) (.slice Aea (evV s0 5).length cea),eBlk (w.heap.size + 2) 35 [.slice none 0 0,.int .i64 0,.slice none 0 0,.slice none 0 0],eBlk (w.heap.size + 1) 35 [.slice none 0 0,.int .i64 0,.slice none 0 0,.slice none 0 0],eBlk w.heap.size 30 (twoCells s0 s1 g0 g1)] w4) := S3.out.newI O.out hb
 clear O hb
 refine hK.out _ _ ?_ (fun hHeld => ?_)
 · exact S4.out.pick [7] (by decide)
 clear hK K
 try simp only [List.getElem_toArray,List.getElem_cons_zero,List.getElem_cons_succ,Act.put,List.setIfInBounds_toArray,List.set_cons_zero,List.set_cons_succ]
 refine rdH 15 rfl fun K hK => ?_
 go_simp
 refine (make3_c Aeb ceb (evV s1 5) g1 w4 (S4.out.ints 0 rfl) (evV_lt5 s1 5) (fun e => Own.none (S4.out.get 0 rfl) e) HG1.out).mono ?_
 rintro e w5 ⟨b,q,rfl,hr,ha,hn,hed,hmr,HAO,hb⟩
 have FB : Hid (Gd s1 b) := ⟨hr,ha,hn,hed,hmr⟩
 have S5 : Hid (Sep w.heap.size w [eInts b.al (.slice q.A1 b.al.length q.c1),eInts b.mr (.slice q.A2 b.mr.length q.c2),eEds b.ed (.slice q.A3 b.ed.length q.c3),eInts (evV s1 5) (.slice Aeb (evV s1 5).length ceb),eInts a.al (.slice p.A1 a.al.length p.c1),eInts a.mr (.slice p.A2 a.mr.length p.c2),eEds a.ed (.slice p.A3 a.ed.length p.c3),eInts (evV s0 5) (.slice Aea (evV s0 5).length cea),eBlk (w.heap.size + 2) 35 [.slice none 0 0,.int .i64 0,.slice none 0 0,.slice none 0 0],eBlk (w.heap.size + 1) 35 [.slice none 0 0,.int .i64 0,.slice none 0 0,.slice none 0 0],eBlk w.heap.size 30 (twoCells s0 s1 g0 g1)] w5) := S4.out.news (AuOwn.sep HAO.out hb)
 clear HAO hb hr ha hn hed hmr
 refine hK.out _ _ ?_ (fun hHeld => ?_)
 · exact S5.out.pick [10] (by decide)
 clear hK K
 try simp only [List.getElem_toArray,List.getElem_cons_zero,List.getElem_cons_succ,Act.put,List.setIfInBounds_toArray,List.set_cons_zero,List.set_cons_succ]
 refine rdH 16 rfl fun K hK => ?_
 have sc0 := ckC S5.out 9 rfl 0 rfl
 have sf0 := BlkAt.free (S5.out.get 9 rfl) 0
 have sc1 := ckC S5.out 9 rfl 1 rfl
 have sf1 := BlkAt.free (S5.out.get 9 rfl) 1
 have sc2 := ckC S5.out 9 rfl 2 rfl
 have sf2 := BlkAt.free (S5.out.get 9 rfl) 2
 have sc3 := ckC S5.out 9 rfl 3 rfl
 have sf3 := BlkAt.free (S5.out.get 9 rfl) 3
 try dsimp only [Au.val] at *
 go_simp
 obtain ⟨w6,hw6⟩ : ∃ v,v = ((((w5.setCell ⟨w.heap.size + 1,0,none⟩ (.slice p.A1 a.al.length p.c1)).setCell ⟨w.heap.size + 1,1,none⟩ (.int .i64 a.n)).setCell ⟨w.heap.size + 1,2,none⟩ (.slice p.A2 a.mr.length p.c2)).setCell ⟨w.heap.size + 1,3,none⟩ (.slice p.A3 a.ed.length p.c3)) := ⟨_,rfl⟩
 rw [← hw6]
 have S6 : Hid (Sep w.heap.size w [eInts b.al (.slice q.A1 b.al.length q.c1),eInts b.mr (.slice q.A2 b.mr.length q.c2),eEds b.ed (.slice q.A3 b.ed.length q.c3),eInts (evV s1 5) (.slice Aeb (evV s1 5).length ceb),eInts a.al (.slice p.A1 a.al.length p.c1),eInts a.mr (.slice p.A2 a.mr.length p.c2),eEds a.ed (.slice p.A3 a.ed.length p.c3),eInts (evV s0 5) (.slice Aea (evV s0 5).length cea),eBlk (w.heap.size + 2) 35 [.slice none 0 0,.int .i64 0,.slice none 0 0,.slice none 0 0],eBlk (w.heap.size + 1) 35 [.slice p.A1 a.al.length p.c1,.int .i64 a.n,.slice p.A2 a.mr.length p.c2,.slice p.A3 a.ed.length p.c3],eBlk w.heap.size 30 (twoCells s0 s1 g0 g1)] w6) := by rw [hw6]; exact ((((S5.out.set 9 rfl 0 (.slice p.A1 a.al.length p.c1)).set 9 rfl 1 (.int .i64 a.n)).set 9 rfl 2 (.slice p.A2 a.mr.length p.c2)).set 9 rfl 3 (.slice p.A3 a.ed.length p.c3))
 clear hw6 sc0 sf0 sc1 sf1 sc2 sf2 sc3 sf3
 refine hK.out _ _ ?_ (fun hHeld => ?_)
 · exact S6.out.pick [10] (by decide)
 clear hK K
 try simp only [List.getElem_toArray,List.getElem_cons_zero,List.getElem_cons_succ,Act.put,List.setIfInBounds_toArray,List.set_cons_zero,List.set_cons_succ]
 refine rdH 17 rfl fun K hK => ?_
 have sc0 := ckC S6.out 8 rfl 0 rfl
 have sf0 := BlkAt.free (S6.out.get 8 rfl) 0
 have sc1 := ckC S6.out 8 rfl 1 rfl
 have sf1 := BlkAt.free (S6.out.get 8 rfl) 1
 have sc2 := ckC S6.out 8 rfl 2 rfl
 have sf2 := BlkAt.free (S6.out.get 8 rfl) 2
 have sc3 := ckC S6.out 8 rfl 3 rfl
 have sf3 := BlkAt.free (S6.out.get 8 rfl) 3
 try dsimp only [Au.val] at *
 go_simp
 obtain ⟨w7,hw7⟩ : ∃ v,v = ((((w6.setCell ⟨w.heap.size + 2,0,none⟩ (.slice q.A1 b.al.length q.c1)).setCell ⟨w.heap.size + 2,1,none⟩ (.int .i64 b.n)).setCell ⟨w.heap.size + 2,2,none⟩ (.slice q.A2 b.mr.length q.c2)).setCell ⟨w.heap.size + 2,3,none⟩ (.slice q.A3 b.ed.length q.c3)) := ⟨_,rfl⟩
 rw [← hw7]
 have S7 : Hid (Sep w.heap.size w [eInts b.al (.slice q.A1 b.al.length q.c1),eInts b.mr (.slice q.A2 b.mr.length q.c2),eEds b.ed (.slice q.A3 b.ed.length q.c3),eInts (evV s1 5) (.slice Aeb (evV s1 5).length ceb),eInts a.al (.slice p.A1 a.al.length p.c1),eInts a.mr (.slice p.A2 a.mr.length p.c2),eEds a.ed (.slice p.A3 a.ed.length p.c3),eInts (evV s0 5) (.slice Aea (evV s0 5).length cea),eBlk (w.heap.size + 2) 35 [.slice q.A1 b.al.length q.c1,.int .i64 b.n,.slice q.A2 b.mr.length q.c2,.slice q.A3 b.ed.length q.c3],eBlk (w.heap.size + 1) 35 [.slice p.A1 a.al.length p.c1,.int .i64 a.n,.slice p.A2 a.mr.length p.c2,.slice p.A3 a.ed.length p.c3],eBlk w.heap.size 30 (twoCells s0 s1 g0 g1)] w7) := by rw [hw7]; exact ((((S6.out.set 8 rfl 0 (.slice q.A1 b.al.length q.c1)).set 8 rfl 1 (.int .i64 b.n)).set 8 rfl 2 (.slice q.A2 b.mr.length q.c2)).set 8 rfl 3 (.slice q.A3 b.ed.length q.c3))
 clear hw7 sc0 sf0 sc1 sf1 sc2 sf2 sc3 sf3
 refine hK.out _ _ ?_ (fun hHeld => ?_)
 · exact S7.out.pick [10] (by decide)
 clear hK K
 try simp only [List.getElem_toArray,List.getElem_cons_zero,List.getElem_cons_succ,Act.put,List.setIfInBounds_toArray,List.set_cons_zero,List.set_cons_succ]
 refine wpAnyH_done (by kernel_rfl) ?_ _
 have r0 := ckC S7.out 9 rfl 0 rfl
 have r1 := ckC S7.out 9 rfl 1 rfl
 have r2 := ckC S7.out 9 rfl 2 rfl
 have r3 := ckC S7.out 9 rfl 3 rfl
 have u0 := ckC S7.out 8 rfl 0 rfl
 have u1 := ckC S7.out 8 rfl 1 rfl
 have u2 := ckC S7.out 8 rfl 2 rfl
 have u3 := ckC S7.out 8 rfl 3 rfl
 have SF : Hid (Sep w.heap.size w (eAu a p ++ eAu b q) w7) := S7.out.pick [4,5,6,0,1,2] (by decide)
 go_wp2_with fail
 refine bodyPost_ret (v := .tuple #[a.val p,b.val q]) (by simp [results,Tryd.results14,go_sem,Au.val, *]) rfl ?_
 exact ⟨a,p,b,q,rfl,SF.out,FA.out,FB.out⟩
theorem twoAns {P Q : List Int → Prop} (hPQ : ∀ u,P u ↔ Q u) {f g : Bool} {l m : List Int} (hf : f = false ∧ LeastW P l ∨ f = true ∧ l = [] ∧ ∀ u,¬ P u) (hg : g = true ∧ LeastW Q m ∨ g = false ∧ m = [] ∧ ∀ u,¬ Q u) : f = !g ∧ l = m := by
 rcases hg with ⟨rfl,h⟩ | ⟨rfl,rfl,h⟩
 · rcases hf with ⟨rfl,k⟩ | ⟨_,_,k⟩
   · exact ⟨rfl,(k.congr hPQ).uniq h⟩
   · exact absurd ((hPQ _).2 h.is) (k _)
 · rcases hf with ⟨_,k⟩ | ⟨rfl,rfl,_⟩
   · exact absurd ((hPQ _).1 k.is) (h _)
   · exact ⟨rfl,rfl⟩
end Go.Proofs.YtkifgffhoenaoaaDoor
