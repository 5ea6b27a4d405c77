/-
  overseerref09.Included and Least.
  overseerlaw09.Make: two described automata.
  overseerlaw09.LanguageIncludes.
  How the arguments of the laws read: numbers, described graphs, described pairs.
-/
import Derived.Test.YtkifgffhoenaoaaDoorBas01
import Derived.Test.YtkifgffhoenaoaaDoorPix03
import Derived.Test.YtkifgffhoenaoaaDoorPix02
import Derived.Test.YtkifgffhoenaoaaDoorBas18
import Derived.Test.YtkifgffhoenaoaaDoorBas19
import Derived.Test.YtkifgffhoenaoaaDoorPix01
namespace Go.Proofs.YtkifgffhoenaoaaDoor
open Go.RowKit
set_option linter.unusedSimpArgs false
set_option linter.unusedVariables false
set_option maxRecDepth 100000

theorem has9_e (a : Au) (p : AuP) (s kind : Int) (r : Bool) (w : World) (h2 : IntsAt w p.A2 a.mr) (l2 : a.mr.length ≤ 140737488355328) (h : inV a s kind = r) : Calls Tryd.prog 44 #[a.val p,.int .i64 s,.int .i64 kind] w (Ret (.bool r) w) := h ▸ has9_c a p s kind w h2 l2
def Gives9 (a b : Au) (P : Int × Int → Bool) (w : World) (e : Ending) (w' : World) : Prop := ∃ (A : Option Addr) (c : Nat) (l : List Int) (f : Bool),e = .returned (.tuple #[.slice A l.length c,.bool f]) ∧ Hid (IntsAt w' A l) ∧ Below w.heap.size w w' ∧ l.length ≤ 1000000 ∧
 Hid (f = true ∧ LeastW (LeadsTo (stp2 a b) (a.st,b.st) (unionV a.al b.al) (fun q => P q = true)) l ∨ f = false ∧ l = [] ∧ ∀ u,¬ LeadsTo (stp2 a b) (a.st,b.st) (unionV a.al b.al) (fun q => P q = true) u)
def inc9 (a b : Au) (kind : Int) (both : Bool) (q : Int × Int) : Bool := (inV a q.1 kind && !inV b q.2 kind) || (both && inV b q.2 kind && !inV a q.1 kind)
theorem PAll.word {a b : Au} {evs : List Int} {l : List Pr} (h : PAll a b evs l) {j : Nat} {p : Pr} (hp : l[j]? = some p) : p.w.length ≤ j := by
 rcases h with ⟨_,_,rfl⟩ | h
 · simp at hp
 · exact h.word hp
set_option maxHeartbeats 16000000 in
theorem inc9_c (a b : Au) (p q : AuP) (kind : Int) (both : Bool) (w : World) (ha : a.Right) (hb : b.Right) (hA : Au.At w a p) (hB : Au.At w b q) (hN : (a.n.toNat + 1) * (b.n.toNat + 1) ≤ 1000000) :
 Calls Tryd.prog 16 #[a.val p,b.val q,.int .i64 kind,.bool both] w (Gives9 a b (inc9 a b kind both) w) := by
 have HRA := Lib.hid ha
 have HRB := Lib.hid hb
 have HA := Lib.hid hA
 have HB := Lib.hid hB
 have HD : Hid (¬ inc9 a b kind both (-1,-1) = true) := by simp [Hid,inc9,inV]
 obtain ⟨al,n,mr,ed⟩ := a
 obtain ⟨A1,c1,A2,c2,A3,c3⟩ := p
 obtain ⟨bl,k,ms,es⟩ := b
 obtain ⟨B1,d1,B2,d2,B3,d3⟩ := q
 try dsimp only [Au.val] at *
 clear ha hb hA hB
 go_enter Tryd.func16,Tryd.ntmps16
 go_upto_region 1 with fail
 refine wp_world (fun W => Sep w.heap.size w [eBlk (w.heap.size + 1) 35 [.slice B1 bl.length d1,.int .i64 k,.slice B2 ms.length d2,.slice B3 es.length d3],eBlk w.heap.size 35 [.slice A1 al.length c1,.int .i64 n,.slice A2 mr.length c2,.slice A3 ed.length c3]] W) ?_ fun W S => ?_
 · exact ((Sep.here w).alloc' _ [_,_,_,_] rfl rfl).alloc' _ [_,_,_,_] rfl (by simp)
 have S0 := Lib.hid S
 clear S
 have a0 := BlkAt.cell (S0.out.get 1 rfl) 0
 have a1 := BlkAt.cell (S0.out.get 1 rfl) 1
 have a2 := BlkAt.cell (S0.out.get 1 rfl) 2
 have a3 := BlkAt.cell (S0.out.get 1 rfl) 3
 have b0 := BlkAt.cell (S0.out.get 0 rfl) 0
 have b1 := BlkAt.cell (S0.out.get 0 rfl) 1
 have b2 := BlkAt.cell (S0.out.get 0 rfl) 2
 have b3 := BlkAt.cell (S0.out.get 0 rfl) 3
 simp only [List.getElem?_cons_succ,List.getElem?_cons_zero] at a0 a1 a2 a3 b0 b1 b2 b3
 go_wp2_with fail
 refine (pairs_c ⟨al,n,mr,ed⟩ ⟨bl,k,ms,es⟩ ⟨A1,c1,A2,c2,A3,c3⟩ ⟨B1,d1,B2,d2,B3,d3⟩ W HRA.out HRB.out (HA.out.below S0.out.below) (HB.out.below S0.out.below) hN).mono ?_
 rintro e W1 ⟨raw,l,AR,cR,fs,rfl,T,PL,PS⟩
 have S1 : Hid (Sep w.heap.size w [eWds fs raw l,eOwn PrV.cells 3 82 raw (.slice AR raw.length cR),eBlk (w.heap.size + 1) 35 [.slice B1 bl.length d1,.int .i64 k,.slice B2 ms.length d2,.slice B3 es.length d3],eBlk w.heap.size 35 [.slice A1 al.length c1,.int .i64 n,.slice A2 mr.length c2,.slice A3 ed.length c3]] W1) := S0.out.news T.out
 clear T S0 PS a0 a1 a2 a3 b0 b1 b2 b3
 have hrl : Hid (raw.length = l.length) := (S1.out.get 0 rfl).1
 have hlen : raw.length ≤ 1000000 := by rw [hrl.out]; exact Nat.le_trans (PL.out.len HRA.out HRB.out) hN
 go_wp2_with fail
 go_loopw [11,12,13] (fun x _ _ wr => ∃ (i : Nat),x = .int .i64 (i : Int) ∧ i ≤ raw.length ∧ Hid (∀ j q,j < i → l[j]? = some q → ¬ inc9 ⟨al,n,mr,ed⟩ ⟨bl,k,ms,es⟩ kind both q.pr = true) ∧ Hid (Sep w.heap.size w [eWds fs raw l,eOwn PrV.cells 3 82 raw (.slice AR raw.length cR),eBlk (w.heap.size + 1) 35 [.slice B1 bl.length d1,.int .i64 k,.slice B2 ms.length d2,.slice B3 es.length d3],eBlk w.heap.size 35 [.slice A1 al.length c1,.int .i64 n,.slice A2 mr.length c2,.slice A3 ed.length c3]] wr)) (fun x _ _ _ => raw.length - (intOf x).toNat)
 case atStart => exact ⟨0,rfl,Nat.zero_le _,fun j q h => absurd h (Nat.not_lt_zero _),S1.out⟩
 case round =>
  clear S1
  obtain ⟨i,rfl,hi,HNO,S⟩ := hrel
  by_cases hlt : i < raw.length
  · obtain ⟨gR,oR,r,rfl,hr⟩ := S.out.prs 1 rfl hlt
    obtain ⟨p,hp⟩ : ∃ p,l[i]? = some p := ⟨_,List.getElem?_eq_getElem (by rw [← hrl.out]; exact hlt)⟩
    obtain ⟨rx,ry,hwn,hwd⟩ := (S.out.get 0 rfl).2.2 i r p hr hp
    have HWD := Lib.hid (WdAt.ints (r := r) ⟨hwn,hwd⟩ (S.out.get 0 rfl).2.1)
    obtain ⟨rX,rY,rA,rn_,rc⟩ := r
    dsimp only at rx ry hwn hwd HWD
    subst rx ry hwn
    obtain ⟨hx1,hxe⟩ : ∃ x,inV ⟨al,n,mr,ed⟩ p.x kind = x := ⟨_,rfl⟩
    obtain ⟨hy1,hye⟩ : ∃ x,inV ⟨bl,k,ms,es⟩ p.y kind = x := ⟨_,rfl⟩
    have HX1 := Lib.hid hxe
    have HY1 := Lib.hid hye
    have hpw : p.w.length ≤ i := PL.out.word hp
    have HPP : Hid (inc9 ⟨al,n,mr,ed⟩ ⟨bl,k,ms,es⟩ kind both p.pr = ((hx1 && !hy1) || (both && hy1 && !hx1))) := by rw [← hxe,← hye]; rfl
    clear hxe hye hwd
    have S5 := S
    clear S
    go_upto_region 5 with fail
    go_cut [12,13] (fun x y wx => x = .bool hx1 ∧ y = .bool hy1 ∧ Hid (Sep w.heap.size w [eWds fs raw l,eOwn PrV.cells 3 82 raw (.slice (some ⟨gR,oR,none⟩) raw.length cR),eBlk (w.heap.size + 1) 35 [.slice B1 bl.length d1,.int .i64 k,.slice B2 ms.length d2,.slice B3 es.length d3],eBlk w.heap.size 35 [.slice A1 al.length c1,.int .i64 n,.slice A2 mr.length c2,.slice A3 ed.length c3]] wx))
    case first =>
     have S1 := Lib.hid S5.out.drew
     refine wp_region_held_drew (S := (fun V => Sep w.heap.size w [eOwn PrV.cells 3 82 raw (.slice (some ⟨gR,oR,none⟩) raw.length cR),eBlk (w.heap.size + 1) 35 [.slice B1 bl.length d1,.int .i64 k,.slice B2 ms.length d2,.slice B3 es.length d3],eBlk w.heap.size 35 [.slice A1 al.length c1,.int .i64 n,.slice A2 mr.length c2,.slice A3 ed.length c3]] V)) (by kernel_rfl) ?_ (fun hHeld => ?_)
     · exact S1.out.pick [1,2,3] (by decide)
     generalize hwz : wr.drew = w1 at *
     clear hwz
     refine tkH 0 rfl (v := ?_) (by kernel_rfl) ?_ hHeld ?_
     rotate_left
     · intro V hSw
       have a0 := BlkAt.cell (Sep.get (show Sep w.heap.size w _ V from hSw) 2 rfl) 0
       have a1 := BlkAt.cell (Sep.get (show Sep w.heap.size w _ V from hSw) 2 rfl) 1
       have a2 := BlkAt.cell (Sep.get (show Sep w.heap.size w _ V from hSw) 2 rfl) 2
       have a3 := BlkAt.cell (Sep.get (show Sep w.heap.size w _ V from hSw) 2 rfl) 3
       simp only [List.getElem?_cons_succ,List.getElem?_cons_zero] at a0 a1 a2 a3
       clear hSw
       first | (go_simp; done) | (go_simp; with_reducible rfl)
     try simp only [sx]
     refine tkH 1 rfl (v := ?_) (by kernel_rfl) ?_ hHeld ?_
     rotate_left
     · intro V hSw
       clear hSw
       first | (go_simp; done) | (go_simp; with_reducible rfl)
     try simp only [sx]
     refine tkH 2 rfl (v := ?_) (by kernel_rfl) ?_ hHeld ?_
     rotate_left
     · intro V hSw
       clear hSw
       first | (go_simp; done) | (go_simp; with_reducible rfl)
     try simp only [sx]
     refine tkH 3 rfl (v := ?_) (by kernel_rfl) ?_ hHeld ?_
     rotate_left
     · intro V hSw
       clear hSw
       first | (go_simp; done) | (go_simp; with_reducible rfl)
     try simp only [sx]
     refine tkH 4 rfl (v := ?_) (by kernel_rfl) ?_ hHeld ?_
     rotate_left
     · intro V hSw
       clear hSw
       first | (go_simp; done) | (go_simp; with_reducible rfl)
     try simp only [sx]
     refine tkH 5 rfl (v := ?_) (by kernel_rfl) ?_ hHeld ?_
     rotate_left
     · intro V hSw
       have b0 := (Sep.prAt (show Sep w.heap.size w _ V from hSw) 0 rfl hr).1
       clear hSw
       first | (go_simp; done) | (go_simp; with_reducible rfl)
     try simp only [sx]
     refine tkH 6 rfl (v := ?_) (by kernel_rfl) ?_ hHeld ?_
     rotate_left
     · intro V hSw
       clear hSw
       first | (go_simp; done) | (go_simp; with_reducible rfl)
     try simp only [sx]
     refine tkH 8 rfl (v := ?_) (by kernel_rfl) ?_ hHeld ?_
     rotate_left
     · intro V hSw
       have b0 := BlkAt.cell (Sep.get (show Sep w.heap.size w _ V from hSw) 1 rfl) 0
       have b1 := BlkAt.cell (Sep.get (show Sep w.heap.size w _ V from hSw) 1 rfl) 1
       have b2 := BlkAt.cell (Sep.get (show Sep w.heap.size w _ V from hSw) 1 rfl) 2
       have b3 := BlkAt.cell (Sep.get (show Sep w.heap.size w _ V from hSw) 1 rfl) 3
       simp only [List.getElem?_cons_succ,List.getElem?_cons_zero] at b0 b1 b2 b3
       clear hSw
       first | (go_simp; done) | (go_simp; with_reducible rfl)
     try simp only [sx]
     refine tkH 9 rfl (v := ?_) (by kernel_rfl) ?_ hHeld ?_
     rotate_left
     · intro V hSw
       clear hSw
       first | (go_simp; done) | (go_simp; with_reducible rfl)
     try simp only [sx]
     refine tkH 10 rfl (v := ?_) (by kernel_rfl) ?_ hHeld ?_
     rotate_left
     · intro V hSw
       clear hSw
       first | (go_simp; done) | (go_simp; with_reducible rfl)
     try simp only [sx]
     refine tkH 11 rfl (v := ?_) (by kernel_rfl) ?_ hHeld ?_
     rotate_left
     · intro V hSw
       clear hSw
       first | (go_simp; done) | (go_simp; with_reducible rfl)
     try simp only [sx]
     refine tkH 12 rfl (v := ?_) (by kernel_rfl) ?_ hHeld ?_
     rotate_left
     · intro V hSw
       clear hSw
       first | (go_simp; done) | (go_simp; with_reducible rfl)
     try simp only [sx]
     refine tkH 13 rfl (v := ?_) (by kernel_rfl) ?_ hHeld ?_
     rotate_left
     · intro V hSw
       have b1 := (Sep.prAt (show Sep w.heap.size w _ V from hSw) 0 rfl hr).2.1
       clear hSw
       first | (go_simp; done) | (go_simp; with_reducible rfl)
     try simp only [sx]
     refine tkH 14 rfl (v := ?_) (by kernel_rfl) ?_ hHeld ?_
     rotate_left
     · intro V hSw
       clear hSw
       first | (go_simp; done) | (go_simp; with_reducible rfl)
     try simp only [sx]
     refine rdH 7 rfl fun K hK => ?_
     go_simp
     refine (has9_e ⟨al,n,mr,ed⟩ ⟨A1,c1,A2,c2,A3,c3⟩ p.x kind hx1 w1 (HA.out.below S1.out.below).mr HA.out.lmk HX1.out).mono ?_
     rintro e w2 ⟨rfl,hb⟩
     have S2 : Hid (Sep w.heap.size w [eWds fs raw l,eOwn PrV.cells 3 82 raw (.slice (some ⟨gR,oR,none⟩) raw.length cR),eBlk (w.heap.size + 1) 35 [.slice B1 bl.length d1,.int .i64 k,.slice B2 ms.length d2,.slice B3 es.length d3],eBlk w.heap.size 35 [.slice A1 al.length c1,.int .i64 n,.slice A2 mr.length c2,.slice A3 ed.length c3]] w2) := S1.out.next hb
     clear hb
     refine hK.out _ _ ?_ (fun hHeld => ?_)
     · exact S2.out.pick [1,2,3] (by decide)
     clear hK K
     try simp only [sx]
     refine rdH 15 rfl fun K hK => ?_
     go_simp
     refine (has9_e ⟨bl,k,ms,es⟩ ⟨B1,d1,B2,d2,B3,d3⟩ p.y kind hy1 w2 (HB.out.below S2.out.below).mr HB.out.lmk HY1.out).mono ?_
     rintro e w3 ⟨rfl,hb⟩
     have S3 : Hid (Sep w.heap.size w [eWds fs raw l,eOwn PrV.cells 3 82 raw (.slice (some ⟨gR,oR,none⟩) raw.length cR),eBlk (w.heap.size + 1) 35 [.slice B1 bl.length d1,.int .i64 k,.slice B2 ms.length d2,.slice B3 es.length d3],eBlk w.heap.size 35 [.slice A1 al.length c1,.int .i64 n,.slice A2 mr.length c2,.slice A3 ed.length c3]] w3) := S2.out.next hb
     clear hb
     refine hK.out _ _ ?_ (fun hHeld => ?_)
     · exact S3.out.pick [1,2,3] (by decide)
     clear hK K
     try simp only [sx]
     refine tkH 16 rfl (v := ?_) (by kernel_rfl) ?_ hHeld ?_
     rotate_left
     · intro V hSw
       clear hSw
       first | (go_simp; done) | (go_simp; with_reducible rfl)
     try simp only [sx]
     refine tkH 17 rfl (v := ?_) (by kernel_rfl) ?_ hHeld ?_
     rotate_left
     · intro V hSw
       clear hSw
       first | (go_simp; done) | (go_simp; with_reducible rfl)
     try simp only [sx]
     refine wpAnyH_done (by kernel_rfl) ?_ _
     go_wp2_with fail
     go_meet
     exact ⟨rfl,rfl,S3.out⟩
    case rest =>
     obtain ⟨rfl,rfl,S6⟩ := hcut
     have HWE : Hid (IntsAt wc rA p.w) := by
      obtain ⟨_,_,h⟩ := (S6.out.get 0 rfl).2.2 i _ p hr hp
      exact WdAt.ints h (S6.out.get 0 rfl).2.1
     have c2' := (S6.out.prAt 1 rfl hr).2.2
     clear S5 HWD
     obtain ⟨pp,hpp⟩ : ∃ pp,((hx1 && !hy1) || (both && hy1 && !hx1)) = pp := ⟨_,rfl⟩
     rw [hpp] at HPP
     have yes : pp = true → Hid (LeastW (LeadsTo (stp2 ⟨al,n,mr,ed⟩ ⟨bl,k,ms,es⟩) (Au.st ⟨al,n,mr,ed⟩,Au.st ⟨bl,k,ms,es⟩) (unionV al bl) (fun q => inc9 ⟨al,n,mr,ed⟩ ⟨bl,k,ms,es⟩ kind both q = true)) p.w) := fun h => PL.out.least HRA.out HRB.out (P := fun q => inc9 ⟨al,n,mr,ed⟩ ⟨bl,k,ms,es⟩ kind both q = true) HD.out HNO.out hp (HPP.out.trans h)
     have no : pp = false → Hid (∀ j q,j < i + 1 → l[j]? = some q → ¬ inc9 ⟨al,n,mr,ed⟩ ⟨bl,k,ms,es⟩ kind both q.pr = true) := fun h j q hj hq => by
      by_cases e : j = i
      · subst e
        rw [hp] at hq; cases hq
        rw [HPP.out,h]; simp
      · exact HNO.out j q (by omega) hq
     have hwl : p.w.length ≤ 1000000 := by omega
     cases both <;> cases hx1 <;> cases hy1
     all_goals
      simp only [Bool.not_true,Bool.not_false,Bool.and_true,Bool.and_false,Bool.true_and,Bool.false_and,Bool.or_false,Bool.false_or,Bool.or_true,Bool.true_or] at hpp
      subst hpp
      first
      | (have HY := yes rfl
         clear yes no HPP HNO
         go_wp2_with fail
         refine bodyPost_ret (v := .tuple #[.slice rA p.w.length rc,.bool true]) (by simp [results,Tryd.results16,go_sem]) rfl ?_
         exact ⟨rA,rc,p.w,true,rfl,HWE.out,S6.out.below,hwl,.inl ⟨rfl,HY.out⟩⟩)
      | (have HZ := no rfl
         clear yes no HPP HNO
         go_wp2_with fail
         go_roundw
         case rel => exact ⟨i + 1,by go_num,by omega,HZ.out,S6.out⟩
         case measure => simp [intOf]; omega)
  · obtain rfl : i = raw.length := by omega
    have HZ : Hid (∀ u,¬ LeadsTo (stp2 ⟨al,n,mr,ed⟩ ⟨bl,k,ms,es⟩) (Au.st ⟨al,n,mr,ed⟩,Au.st ⟨bl,k,ms,es⟩) (unionV al bl) (fun q => inc9 ⟨al,n,mr,ed⟩ ⟨bl,k,ms,es⟩ kind both q = true) u) := fun u => PL.out.none_ HRA.out HRB.out (P := fun q => inc9 ⟨al,n,mr,ed⟩ ⟨bl,k,ms,es⟩ kind both q = true) HD.out (fun j q hq => HNO.out j q (by have := (List.getElem?_eq_some_iff.1 hq).1; rw [hrl.out]; exact this) hq) u
    clear HNO
    go_wp2_with fail
    refine bodyPost_ret (v := .tuple #[.slice none 0 0,.bool false]) (by simp [results,Tryd.results16,go_sem]) rfl ?_
    exact ⟨none,0,[],false,rfl,SlAt.nil,S.out.below,by simp,.inr ⟨rfl,rfl,HZ.out⟩⟩
set_option maxHeartbeats 16000000 in
theorem least9_c (a : Au) (p : AuP) (kind : Int) (w : World) (ha : a.Right) (hA : Au.At w a p) :
 Calls Tryd.prog 35 #[a.val p,.int .i64 kind] w (Gives9 a Au.zero (fun q => inV a q.1 kind) w) := by
 have HRA := Lib.hid ha
 have HA := Lib.hid hA
 have HD : Hid (¬ inV a (-1) kind = true) := by simp [Hid,inV]
 have hN : (a.n.toNat + 1) * 1 ≤ 1000000 := by have := ha.n1; omega
 have hN2 : (a.n.toNat + 1) * (Au.zero.n.toNat + 1) ≤ 1000000 := hN
 obtain ⟨al,n,mr,ed⟩ := a
 obtain ⟨A1,c1,A2,c2,A3,c3⟩ := p
 try dsimp only [Au.val] at *
 clear ha hA
 go_enter Tryd.func35,Tryd.ntmps35
 go_upto_region 1 with fail
 refine wp_world (fun W => Sep w.heap.size w [eBlk w.heap.size 35 [.slice A1 al.length c1,.int .i64 n,.slice A2 mr.length c2,.slice A3 ed.length c3]] W) ?_ fun W S => ?_
 · exact (Sep.here w).alloc' _ [_,_,_,_] rfl rfl
 have S0 := Lib.hid S
 clear S
 go_cut [6] (fun v wx => ∃ (raw : List PrV) (l : List Pr) (AR : Option Addr) (cR : Nat) (fs : List Nat),v = .slice AR raw.length cR ∧ Hid (PAll ⟨al,n,mr,ed⟩ Au.zero (unionV al Au.zero.al) l) ∧ Hid (Sep w.heap.size w [eWds fs raw l,eOwn PrV.cells 3 82 raw (.slice AR raw.length cR),eBlk w.heap.size 35 [.slice A1 al.length c1,.int .i64 n,.slice A2 mr.length c2,.slice A3 ed.length c3]] wx))
 case first =>
  have S6 := Lib.hid S0.out.drew
  refine wp_region_held_drew (S := (fun V => Sep w.heap.size w [eBlk w.heap.size 35 [.slice A1 al.length c1,.int .i64 n,.slice A2 mr.length c2,.slice A3 ed.length c3]] V)) (by kernel_rfl) ?_ (fun hHeld => ?_)
  · exact S6.out.pick [0] (by decide)
  generalize hwz : W.drew = w6 at *
  clear hwz
  refine tkH 0 rfl (v := ?_) (by kernel_rfl) ?_ hHeld ?_
  rotate_left
  · intro V hSw
    have a0 := BlkAt.cell (Sep.get (show Sep w.heap.size w _ V from hSw) 0 rfl) 0
    have a1 := BlkAt.cell (Sep.get (show Sep w.heap.size w _ V from hSw) 0 rfl) 1
    have a2 := BlkAt.cell (Sep.get (show Sep w.heap.size w _ V from hSw) 0 rfl) 2
    have a3 := BlkAt.cell (Sep.get (show Sep w.heap.size w _ V from hSw) 0 rfl) 3
    simp only [List.getElem?_cons_succ,List.getElem?_cons_zero] at a0 a1 a2 a3
    clear hSw
    first | (go_simp; done) | (go_simp; with_reducible rfl)
  try simp only [sx]
  refine rdH 1 rfl fun K hK => ?_
  go_simp
  refine (Empty_c none 0 [] w6 SlAt.nil (by simp) (fun _ => ⟨rfl,rfl⟩)).mono ?_
  rintro e w7 ⟨AE,cE,rfl,HO,hb⟩
  have S7 : Hid (Sep w.heap.size w [eBlk w.heap.size 35 [.slice A1 al.length c1,.int .i64 n,.slice A2 mr.length c2,.slice A3 ed.length c3]] w7) := S6.out.next hb
  have HZ : Hid (Au.At w7 Au.zero ⟨AE,cE,none,0,none,0⟩) := ⟨OwnI.ints HO,SlAt.nil,SlAt.nil,by simp [Au.zero],by simp [Au.zero],by simp [Au.zero]⟩
  clear hb HO
  refine hK.out _ _ ?_ (fun hHeld => ?_)
  · exact S7.out.pick [0] (by decide)
  clear hK K
  try simp only [sx]
  refine rdH 2 rfl fun K hK => ?_
  go_simp
  refine (pairs_c ⟨al,n,mr,ed⟩ Au.zero ⟨A1,c1,A2,c2,A3,c3⟩ ⟨AE,cE,none,0,none,0⟩ w7 HRA.out Au.zero_right (HA.out.below S7.out.below) HZ.out hN2).mono ?_
  rintro e w8 ⟨raw,l,AR,cR,fs,rfl,T,PL,PS⟩
  have S8 : Hid (Sep w.heap.size w [eWds fs raw l,eOwn PrV.cells 3 82 raw (.slice AR raw.length cR),eBlk w.heap.size 35 [.slice A1 al.length c1,.int .i64 n,.slice A2 mr.length c2,.slice A3 ed.length c3]] w8) := S7.out.news T.out
  clear T PS
  refine hK.out _ _ ?_ (fun hHeld => ?_)
  · exact S8.out.pick [2] (by decide)
  clear hK K
  try simp only [sx]
  refine tkH 3 rfl (v := ?_) (by kernel_rfl) ?_ hHeld ?_
  rotate_left
  · intro V hSw
    clear hSw
    first | (go_simp; done) | (go_simp; with_reducible rfl)
  try simp only [sx]
  refine wpAnyH_done (by kernel_rfl) ?_ _
  go_wp2_with fail
  go_meet
  exact ⟨raw,l,AR,cR,fs,rfl,PL.out,S8.out⟩
 case rest =>
  clear S0
  obtain ⟨raw,l,AR,cR,fs,rfl,PL,S1⟩ := hcut
  have hrl : Hid (raw.length = l.length) := (S1.out.get 0 rfl).1
  have hlen : raw.length ≤ 1000000 := by rw [hrl.out]; exact Nat.le_trans (PL.out.len HRA.out Au.zero_right) hN2
  go_wp2_with fail
  go_loopw [7] (fun x wr => ∃ (i : Nat),x = .int .i64 (i : Int) ∧ i ≤ raw.length ∧ Hid (∀ j q,j < i → l[j]? = some q → ¬ inV ⟨al,n,mr,ed⟩ q.pr.1 kind = true) ∧ Hid (Sep w.heap.size w [eWds fs raw l,eOwn PrV.cells 3 82 raw (.slice AR raw.length cR),eBlk w.heap.size 35 [.slice A1 al.length c1,.int .i64 n,.slice A2 mr.length c2,.slice A3 ed.length c3]] wr)) (fun x _ => raw.length - (intOf x).toNat)
  case atStart => exact ⟨0,rfl,Nat.zero_le _,fun j q h => absurd h (Nat.not_lt_zero _),S1.out⟩
  case round =>
   clear S1
   obtain ⟨i,rfl,hi,HNO,S⟩ := hrel
   by_cases hlt : i < raw.length
   · obtain ⟨gR,oR,r,rfl,hr⟩ := S.out.prs 1 rfl hlt
     obtain ⟨p,hp⟩ : ∃ p,l[i]? = some p := ⟨_,List.getElem?_eq_getElem (by rw [← hrl.out]; exact hlt)⟩
     obtain ⟨rx,ry,hwn,hwd⟩ := (S.out.get 0 rfl).2.2 i r p hr hp
     obtain ⟨rX,rY,rA,rn_,rc⟩ := r
     dsimp only at rx ry hwn hwd
     subst rx ry hwn
     obtain ⟨hx1,hxe⟩ : ∃ x,inV ⟨al,n,mr,ed⟩ p.x kind = x := ⟨_,rfl⟩
     have HX1 := Lib.hid hxe
     have hpw : p.w.length ≤ i := PL.out.word hp
     have hwl : p.w.length ≤ 1000000 := by omega
     clear hxe hwd
     have S5 := S
     clear S
     go_upto_region 5 with fail
     go_cut [24] (fun x wx => x = .bool hx1 ∧ Hid (Sep w.heap.size w [eWds fs raw l,eOwn PrV.cells 3 82 raw (.slice (some ⟨gR,oR,none⟩) raw.length cR),eBlk w.heap.size 35 [.slice A1 al.length c1,.int .i64 n,.slice A2 mr.length c2,.slice A3 ed.length c3]] wx))
     case first =>
      have S4 := Lib.hid S5.out.drew
      refine wp_region_held_drew (S := (fun V => Sep w.heap.size w [eOwn PrV.cells 3 82 raw (.slice (some ⟨gR,oR,none⟩) raw.length cR),eBlk w.heap.size 35 [.slice A1 al.length c1,.int .i64 n,.slice A2 mr.length c2,.slice A3 ed.length c3]] V)) (by kernel_rfl) ?_ (fun hHeld => ?_)
      · exact S4.out.pick [1,2] (by decide)
      generalize hwz : wr.drew = w4 at *
      clear hwz
      refine tkH 0 rfl (v := ?_) (by kernel_rfl) ?_ hHeld ?_
      rotate_left
      · intro V hSw
        have a0 := BlkAt.cell (Sep.get (show Sep w.heap.size w _ V from hSw) 1 rfl) 0
        have a1 := BlkAt.cell (Sep.get (show Sep w.heap.size w _ V from hSw) 1 rfl) 1
        have a2 := BlkAt.cell (Sep.get (show Sep w.heap.size w _ V from hSw) 1 rfl) 2
        have a3 := BlkAt.cell (Sep.get (show Sep w.heap.size w _ V from hSw) 1 rfl) 3
        simp only [List.getElem?_cons_succ,List.getElem?_cons_zero] at a0 a1 a2 a3
        clear hSw
        first | (go_simp; done) | (go_simp; with_reducible rfl)
      try simp only [sx]
      refine tkH 1 rfl (v := ?_) (by kernel_rfl) ?_ hHeld ?_
      rotate_left
      · intro V hSw
        clear hSw
        first | (go_simp; done) | (go_simp; with_reducible rfl)
      try simp only [sx]
      refine tkH 2 rfl (v := ?_) (by kernel_rfl) ?_ hHeld ?_
      rotate_left
      · intro V hSw
        clear hSw
        first | (go_simp; done) | (go_simp; with_reducible rfl)
      try simp only [sx]
      refine tkH 3 rfl (v := ?_) (by kernel_rfl) ?_ hHeld ?_
      rotate_left
      · intro V hSw
        clear hSw
        first | (go_simp; done) | (go_simp; with_reducible rfl)
      try simp only [sx]
      refine tkH 4 rfl (v := ?_) (by kernel_rfl) ?_ hHeld ?_
      rotate_left
      · intro V hSw
        clear hSw
        first | (go_simp; done) | (go_simp; with_reducible rfl)
      try simp only [sx]
      refine tkH 5 rfl (v := ?_) (by kernel_rfl) ?_ hHeld ?_
      rotate_left
      · intro V hSw
        have b0 := (Sep.prAt (show Sep w.heap.size w _ V from hSw) 0 rfl hr).1
        clear hSw
        first | (go_simp; done) | (go_simp; with_reducible rfl)
      try simp only [sx]
      refine tkH 6 rfl (v := ?_) (by kernel_rfl) ?_ hHeld ?_
      rotate_left
      · intro V hSw
        clear hSw
        first | (go_simp; done) | (go_simp; with_reducible rfl)
      try simp only [sx]
      refine rdH 7 rfl fun K hK => ?_
      go_simp
      refine (has9_e ⟨al,n,mr,ed⟩ ⟨A1,c1,A2,c2,A3,c3⟩ p.x kind hx1 w4 (HA.out.below S4.out.below).mr HA.out.lmk HX1.out).mono ?_
      rintro e w5 ⟨rfl,hb⟩
      have S5 : Hid (Sep w.heap.size w [eWds fs raw l,eOwn PrV.cells 3 82 raw (.slice (some ⟨gR,oR,none⟩) raw.length cR),eBlk w.heap.size 35 [.slice A1 al.length c1,.int .i64 n,.slice A2 mr.length c2,.slice A3 ed.length c3]] w5) := S4.out.next hb
      clear hb
      refine hK.out _ _ ?_ (fun hHeld => ?_)
      · exact S5.out.pick [1,2] (by decide)
      clear hK K
      try simp only [sx]
      refine wpAnyH_done (by kernel_rfl) ?_ _
      go_wp2_with fail
      go_meet
      exact ⟨rfl,S5.out⟩
     case rest =>
      obtain ⟨rfl,S6⟩ := hcut
      have HWE : Hid (IntsAt wc rA p.w) := by
       obtain ⟨_,_,h⟩ := (S6.out.get 0 rfl).2.2 i _ p hr hp
       exact WdAt.ints h (S6.out.get 0 rfl).2.1
      have c2' := (S6.out.prAt 1 rfl hr).2.2
      clear S5
      cases hx1
      · have HZ : Hid (∀ j q,j < i + 1 → l[j]? = some q → ¬ inV ⟨al,n,mr,ed⟩ q.pr.1 kind = true) := fun j q hj hq => by
         by_cases e : j = i
         · subst e
           rw [hp] at hq; cases hq
           rw [show p.pr.1 = p.x from rfl,HX1.out]; simp
         · exact HNO.out j q (by omega) hq
        clear HNO HX1
        go_wp2_with fail
        go_roundw
        case rel => exact ⟨i + 1,by go_num,by omega,HZ.out,S6.out⟩
        case measure => simp [intOf]; omega
      · have HY : Hid (LeastW (LeadsTo (stp2 ⟨al,n,mr,ed⟩ Au.zero) (Au.st ⟨al,n,mr,ed⟩,Au.zero.st) (unionV al Au.zero.al) (fun q => inV ⟨al,n,mr,ed⟩ q.1 kind = true)) p.w) := PL.out.least HRA.out Au.zero_right (P := fun q => inV ⟨al,n,mr,ed⟩ q.1 kind = true) HD.out HNO.out hp HX1.out
        clear HNO HX1
        go_wp2_with fail
        refine bodyPost_ret (v := .tuple #[.slice rA p.w.length rc,.bool true]) (by simp [results,Tryd.results35,go_sem]) rfl ?_
        exact ⟨rA,rc,p.w,true,rfl,HWE.out,S6.out.below,hwl,.inl ⟨rfl,HY.out⟩⟩
   · obtain rfl : i = raw.length := by omega
     have HZ : Hid (∀ u,¬ LeadsTo (stp2 ⟨al,n,mr,ed⟩ Au.zero) (Au.st ⟨al,n,mr,ed⟩,Au.zero.st) (unionV al Au.zero.al) (fun q => inV ⟨al,n,mr,ed⟩ q.1 kind = true) u) := fun u => PL.out.none_ HRA.out Au.zero_right (P := fun q => inV ⟨al,n,mr,ed⟩ q.1 kind = true) HD.out (fun j q hq => HNO.out j q (by have := (List.getElem?_eq_some_iff.1 hq).1; rw [hrl.out]; exact this) hq) u
     clear HNO
     go_wp2_with fail
     refine bodyPost_ret (v := .tuple #[.slice none 0 0,.bool false]) (by simp [results,Tryd.results35,go_sem]) rfl ?_
     exact ⟨none,0,[],false,rfl,SlAt.nil,S.out.below,by simp,.inr ⟨rfl,rfl,HZ.out⟩⟩
end Go.Proofs.YtkifgffhoenaoaaDoor

namespace Go.Proofs.YtkifgffhoenaoaaDoor
open Go.RowKit
set_option linter.unusedSimpArgs false
set_option linter.unusedVariables false
set_option maxRecDepth 100000

set_option maxHeartbeats 4000000 in
theorem make9_c (s0 s1 : Int) (g0 g1 : Gr) (w : World) (h0 : 0 ≤ s0 ∧ s0 < 256) (h1 : 0 ≤ s1 ∧ s1 < 256) (hg0 : g0.Ok) (hg1 : g1.Ok) :
 Calls Tryd.prog 14 #[.agg (twoCells s0 s1 g0 g1).toArray] w (GivesTwo s0 s1 w) := by
 have H0 := Lib.hid h0
 have H1 := Lib.hid h1
 have HG0 := Lib.hid hg0
 have HG1 := Lib.hid hg1
 clear h0 h1 hg0 hg1
 go_enter Tryd.func14,Tryd.ntmps14
 generalize hcs : twoCells s0 s1 g0 g1 = cs
 go_upto_region 1 with fail
 refine wp_world (fun W => Sep w.heap.size w [eBlk (w.heap.size + 2) 35 [.slice none 0 0,.int .i64 0,.slice none 0 0,.slice none 0 0],eBlk (w.heap.size + 1) 35 [.slice none 0 0,.int .i64 0,.slice none 0 0,.slice none 0 0],eBlk w.heap.size 30 cs] W) ?_ fun W0 S => ?_
 · exact ((((Sep.here w).alloc' _ cs rfl rfl).alloc' _ [_,_,_,_] rfl (by simp)).alloc' _ [_,_,_,_] rfl (by simp))
 rw [← hcs] at S
 have S0 := Lib.hid S
 clear S hcs
 have S1 := Lib.hid S0.out.drew
 refine wp_region_held_drew (S := (fun V => Sep w.heap.size w [eBlk w.heap.size 30 (twoCells s0 s1 g0 g1)] V)) (by kernel_rfl) ?_ (fun hHeld => ?_)
 · exact S1.out.pick [2] (by decide)
 generalize hwz : W0.drew = w1 at *
 clear hwz
 refine tkH 0 rfl (v := ?_) (by kernel_rfl) ?_ hHeld ?_
 rotate_left
 · intro V hSw
   clear hSw
   first | (go_simp; done) | (go_simp; with_reducible rfl)
 try simp only [List.getElem_toArray,List.getElem_cons_zero,List.getElem_cons_succ,Act.put,List.setIfInBounds_toArray,List.set_cons_zero,List.set_cons_succ]
 refine tkH 1 rfl (v := ?_) (by kernel_rfl) ?_ hHeld ?_
 rotate_left
 · intro V hSw
   clear hSw
   first | (go_simp; done) | (go_simp; with_reducible rfl)
 try simp only [List.getElem_toArray,List.getElem_cons_zero,List.getElem_cons_succ,Act.put,List.setIfInBounds_toArray,List.set_cons_zero,List.set_cons_succ]
 refine tkH 2 rfl (v := ?_) (by kernel_rfl) ?_ hHeld ?_
 rotate_left
 · intro V hSw
   have c0 := BlkAt.cell (Sep.get (show Sep w.heap.size w _ V from hSw) 0 rfl) 0
   rw [show (twoCells s0 s1 g0 g1)[0]? = some (.int .u8 s0) from rfl] at c0
   clear hSw
   first | (go_simp; done) | (go_simp; with_reducible rfl)
 try simp only [List.getElem_toArray,List.getElem_cons_zero,List.getElem_cons_succ,Act.put,List.setIfInBounds_toArray,List.set_cons_zero,List.set_cons_succ]
 refine tkH 4 rfl (v := ?_) (by kernel_rfl) ?_ hHeld ?_
 rotate_left
 · intro V hSw
   clear hSw
   first | (go_simp; done) | (go_simp; with_reducible rfl)
 try simp only [List.getElem_toArray,List.getElem_cons_zero,List.getElem_cons_succ,Act.put,List.setIfInBounds_toArray,List.set_cons_zero,List.set_cons_succ]
 refine tkH 5 rfl (v := ?_) (by kernel_rfl) ?_ hHeld ?_
 rotate_left
 · intro V hSw
   clear hSw
   first | (go_simp; done) | (go_simp; with_reducible rfl)
 try simp only [List.getElem_toArray,List.getElem_cons_zero,List.getElem_cons_succ,Act.put,List.setIfInBounds_toArray,List.set_cons_zero,List.set_cons_succ]
 refine wpAnyH_take (i := 6) (v := _) rfl (by kernel_rfl) (by kernel_rfl) (by kernel_rfl) (fun _ _ _ h => h) (yieldsIf_load_mid (by kernel_rfl) 27 (.tmp 9) rfl w.heap.size 2 rfl g0.cells _ (fun V hSw => BlkAt.rng (Sep.get (show Sep w.heap.size w _ V from hSw) 0 rfl) (two2 s0 s1 g0 g1)) Tryd.underlying27 rfl (by kernel_rfl)) hHeld ?_
 try simp only [List.getElem_toArray,List.getElem_cons_zero,List.getElem_cons_succ,Act.put,List.setIfInBounds_toArray,List.set_cons_zero,List.set_cons_succ]
 refine tkH 8 rfl (v := ?_) (by kernel_rfl) ?_ hHeld ?_
 rotate_left
 · intro V hSw
   clear hSw
   first | (go_simp; done) | (go_simp; with_reducible rfl)
 try simp only [List.getElem_toArray,List.getElem_cons_zero,List.getElem_cons_succ,Act.put,List.setIfInBounds_toArray,List.set_cons_zero,List.set_cons_succ]
 refine tkH 9 rfl (v := ?_) (by kernel_rfl) ?_ hHeld ?_
 rotate_left
 · intro V hSw
   clear hSw
   first | (go_simp; done) | (go_simp; with_reducible rfl)
 try simp only [List.getElem_toArray,List.getElem_cons_zero,List.getElem_cons_succ,Act.put,List.setIfInBounds_toArray,List.set_cons_zero,List.set_cons_succ]
 refine tkH 10 rfl (v := ?_) (by kernel_rfl) ?_ hHeld ?_
 rotate_left
 · intro V hSw
   have c1 := BlkAt.cell (Sep.get (show Sep w.heap.size w _ V from hSw) 0 rfl) 1
   rw [show (twoCells s0 s1 g0 g1)[1]? = some (.int .u8 s1) from rfl] at c1
   clear hSw
   first | (go_simp; done) | (go_simp; with_reducible rfl)
 try simp only [List.getElem_toArray,List.getElem_cons_zero,List.getElem_cons_succ,Act.put,List.setIfInBounds_toArray,List.set_cons_zero,List.set_cons_succ]
 refine tkH 12 rfl (v := ?_) (by kernel_rfl) ?_ hHeld ?_
 rotate_left
 · intro V hSw
   clear hSw
   first | (go_simp; done) | (go_simp; with_reducible rfl)
 try simp only [List.getElem_toArray,List.getElem_cons_zero,List.getElem_cons_succ,Act.put,List.setIfInBounds_toArray,List.set_cons_zero,List.set_cons_succ]
 refine tkH 13 rfl (v := ?_) (by kernel_rfl) ?_ hHeld ?_
 rotate_left
 · intro V hSw
   clear hSw
   first | (go_simp; done) | (go_simp; with_reducible rfl)
 try simp only [List.getElem_toArray,List.getElem_cons_zero,List.getElem_cons_succ,Act.put,List.setIfInBounds_toArray,List.set_cons_zero,List.set_cons_succ]
 refine wpAnyH_take (i := 14) (v := _) rfl (by kernel_rfl) (by kernel_rfl) (by kernel_rfl) (fun _ _ _ h => h) (yieldsIf_load_mid (by kernel_rfl) 27 (.tmp 17) rfl w.heap.size 29 rfl g1.cells _ (fun V hSw => BlkAt.rng (Sep.get (show Sep w.heap.size w _ V from hSw) 0 rfl) (two29 s0 s1 g0 g1)) Tryd.underlying27 rfl (by kernel_rfl)) hHeld ?_
 try simp only [List.getElem_toArray,List.getElem_cons_zero,List.getElem_cons_succ,Act.put,List.setIfInBounds_toArray,List.set_cons_zero,List.set_cons_succ]
 refine rdH 3 rfl fun K hK => ?_
 go_simp
 refine (events_c s0 w1 H0.out.1 H0.out.2).mono ?_
 rintro e w2 ⟨v,rfl,O,hb⟩
 obtain ⟨Aea,cea,rfl⟩ := Own.form O.out
 have S2 : Hid (Sep w.heap.size w [eInts (evV s0 5) (.slice Aea (evV s0 5).length cea),eBlk (w.heap.size + 2) 35 [.slice none 0 0,.int .i64 0,.slice none 0 0,.slice none 0 0],eBlk (w.heap.size + 1) 35 [.slice none 0 0,.int .i64 0,.slice none 0 0,.slice none 0 0],eBlk w.heap.size 30 (twoCells s0 s1 g0 g1)] w2) := S1.out.newI O.out hb
 clear O hb
 refine hK.out _ _ ?_ (fun hHeld => ?_)
 · exact S2.out.pick [3] (by decide)
 clear hK K
 try simp only [List.getElem_toArray,List.getElem_cons_zero,List.getElem_cons_succ,Act.put,List.setIfInBounds_toArray,List.set_cons_zero,List.set_cons_succ]
 refine rdH 7 rfl fun K hK => ?_
 go_simp
 refine (make3_c Aea cea (evV s0 5) g0 w2 (S2.out.ints 0 rfl) (evV_lt5 s0 5) (fun e => Own.none (S2.out.get 0 rfl) e) HG0.out).mono ?_
 rintro e w3 ⟨a,p,rfl,hr,ha,hn,hed,hmr,HAO,hb⟩
 have FA : Hid (Gd s0 a) := ⟨hr,ha,hn,hed,hmr⟩
 have S3 : Hid (Sep w.heap.size w [eInts a.al (.slice p.A1 a.al.length p.c1),eInts a.mr (.slice p.A2 a.mr.length p.c2),eEds a.ed (.slice p.A3 a.ed.length p.c3),eInts (evV s0 5) (.slice Aea (evV s0 5).length cea),eBlk (w.heap.size + 2) 35 [.slice none 0 0,.int .i64 0,.slice none 0 0,.slice none 0 0],eBlk (w.heap.size + 1) 35 [.slice none 0 0,.int .i64 0,.slice none 0 0,.slice none 0 0],eBlk w.heap.size 30 (twoCells s0 s1 g0 g1)] w3) := S2.out.news (AuOwn.sep HAO.out hb)
 clear HAO hb hr ha hn hed hmr
 refine hK.out _ _ ?_ (fun hHeld => ?_)
 · exact S3.out.pick [6] (by decide)
 clear hK K
 try simp only [List.getElem_toArray,List.getElem_cons_zero,List.getElem_cons_succ,Act.put,List.setIfInBounds_toArray,List.set_cons_zero,List.set_cons_succ]
 refine rdH 11 rfl fun K hK => ?_
 go_simp
 refine (events_c s1 w3 H1.out.1 H1.out.2).mono ?_
 rintro e w4 ⟨v,rfl,O,hb⟩
 obtain ⟨Aeb,ceb,rfl⟩ := Own.form O.out
 have S4 : Hid (Sep w.heap.size w [eInts (evV s1 5) (.slice Aeb (evV s1 5).length ceb),eInts a.al (.slice p.A1 a.al.length p.c1),eInts a.mr (.slice p.A2 a.mr.length p.c2),eEds a.ed (.slice p.A3 a.ed.length p.c3),eInts (evV s0 5) (.slice Aea (evV s0 5).length cea),eBlk (w.heap.size + 2) 35 [.slice none 0 0,.int .i64 0,.slice none 0 0,.slice none 0 0],eBlk (w.heap.size + 1) 35 [.slice none 0 0,.int .i64 0,.slice none 0 0,.slice none 0 0],eBlk w.heap.size 30 (twoCells s0 s1 g0 g1)] w4) := S3.out.newI O.out hb
 clear O hb
 refine hK.out _ _ ?_ (fun hHeld => ?_)
 · exact S4.out.pick [7] (by decide)
 clear hK K
 try simp only [List.getElem_toArray,List.getElem_cons_zero,List.getElem_cons_succ,Act.put,List.setIfInBounds_toArray,List.set_cons_zero,List.set_cons_succ]
 refine rdH 15 rfl fun K hK => ?_
 go_simp
 refine (make3_c Aeb ceb (evV s1 5) g1 w4 (S4.out.ints 0 rfl) (evV_lt5 s1 5) (fun e => Own.none (S4.out.get 0 rfl) e) HG1.out).mono ?_
 rintro e w5 ⟨b,q,rfl,hr,ha,hn,hed,hmr,HAO,hb⟩
 have FB : Hid (Gd s1 b) := ⟨hr,ha,hn,hed,hmr⟩
 have S5 : Hid (Sep w.heap.size w [eInts b.al (.slice q.A1 b.al.length q.c1),eInts b.mr (.slice q.A2 b.mr.length q.c2),eEds b.ed (.slice q.A3 b.ed.length q.c3),eInts (evV s1 5) (.slice Aeb (evV s1 5).length ceb),eInts a.al (.slice p.A1 a.al.length p.c1),eInts a.mr (.slice p.A2 a.mr.length p.c2),eEds a.ed (.slice p.A3 a.ed.length p.c3),eInts (evV s0 5) (.slice Aea (evV s0 5).length cea),eBlk (w.heap.size + 2) 35 [.slice none 0 0,.int .i64 0,.slice none 0 0,.slice none 0 0],eBlk (w.heap.size + 1) 35 [.slice none 0 0,.int .i64 0,.slice none 0 0,.slice none 0 0],eBlk w.heap.size 30 (twoCells s0 s1 g0 g1)] w5) := S4.out.news (AuOwn.sep HAO.out hb)
 clear HAO hb hr ha hn hed hmr
 refine hK.out _ _ ?_ (fun hHeld => ?_)
 · exact S5.out.pick [10] (by decide)
 clear hK K
 try simp only [List.getElem_toArray,List.getElem_cons_zero,List.getElem_cons_succ,Act.put,List.setIfInBounds_toArray,List.set_cons_zero,List.set_cons_succ]
 refine rdH 16 rfl fun K hK => ?_
 have sc0 := BlkAt.cell (S5.out.get 9 rfl) 0
 have sf0 := BlkAt.free (S5.out.get 9 rfl) 0
 have sc1 := BlkAt.cell (S5.out.get 9 rfl) 1
 have sf1 := BlkAt.free (S5.out.get 9 rfl) 1
 have sc2 := BlkAt.cell (S5.out.get 9 rfl) 2
 have sf2 := BlkAt.free (S5.out.get 9 rfl) 2
 have sc3 := BlkAt.cell (S5.out.get 9 rfl) 3
 have sf3 := BlkAt.free (S5.out.get 9 rfl) 3
 simp only [List.getElem?_cons_succ,List.getElem?_cons_zero] at sc0 sc1 sc2 sc3
 try dsimp only [Au.val] at *
 go_simp
 obtain ⟨w6,hw6⟩ : ∃ v,v = ((((w5.setCell ⟨w.heap.size + 1,0,none⟩ (.slice p.A1 a.al.length p.c1)).setCell ⟨w.heap.size + 1,1,none⟩ (.int .i64 a.n)).setCell ⟨w.heap.size + 1,2,none⟩ (.slice p.A2 a.mr.length p.c2)).setCell ⟨w.heap.size + 1,3,none⟩ (.slice p.A3 a.ed.length p.c3)) := ⟨_,rfl⟩
 rw [← hw6]
 have S6 : Hid (Sep w.heap.size w [eInts b.al (.slice q.A1 b.al.length q.c1),eInts b.mr (.slice q.A2 b.mr.length q.c2),eEds b.ed (.slice q.A3 b.ed.length q.c3),eInts (evV s1 5) (.slice Aeb (evV s1 5).length ceb),eInts a.al (.slice p.A1 a.al.length p.c1),eInts a.mr (.slice p.A2 a.mr.length p.c2),eEds a.ed (.slice p.A3 a.ed.length p.c3),eInts (evV s0 5) (.slice Aea (evV s0 5).length cea),eBlk (w.heap.size + 2) 35 [.slice none 0 0,.int .i64 0,.slice none 0 0,.slice none 0 0],eBlk (w.heap.size + 1) 35 [.slice p.A1 a.al.length p.c1,.int .i64 a.n,.slice p.A2 a.mr.length p.c2,.slice p.A3 a.ed.length p.c3],eBlk w.heap.size 30 (twoCells s0 s1 g0 g1)] w6) := by rw [hw6]; exact ((((S5.out.set 9 rfl 0 (.slice p.A1 a.al.length p.c1)).set 9 rfl 1 (.int .i64 a.n)).set 9 rfl 2 (.slice p.A2 a.mr.length p.c2)).set 9 rfl 3 (.slice p.A3 a.ed.length p.c3))
 clear hw6 sc0 sf0 sc1 sf1 sc2 sf2 sc3 sf3
 refine hK.out _ _ ?_ (fun hHeld => ?_)
 · exact S6.out.pick [10] (by decide)
 clear hK K
 try simp only [List.getElem_toArray,List.getElem_cons_zero,List.getElem_cons_succ,Act.put,List.setIfInBounds_toArray,List.set_cons_zero,List.set_cons_succ]
 refine rdH 17 rfl fun K hK => ?_
 have sc0 := BlkAt.cell (S6.out.get 8 rfl) 0
 have sf0 := BlkAt.free (S6.out.get 8 rfl) 0
 have sc1 := BlkAt.cell (S6.out.get 8 rfl) 1
 have sf1 := BlkAt.free (S6.out.get 8 rfl) 1
 have sc2 := BlkAt.cell (S6.out.get 8 rfl) 2
 have sf2 := BlkAt.free (S6.out.get 8 rfl) 2
 have sc3 := BlkAt.cell (S6.out.get 8 rfl) 3
 have sf3 := BlkAt.free (S6.out.get 8 rfl) 3
 simp only [List.getElem?_cons_succ,List.getElem?_cons_zero] at sc0 sc1 sc2 sc3
 try dsimp only [Au.val] at *
 go_simp
 obtain ⟨w7,hw7⟩ : ∃ v,v = ((((w6.setCell ⟨w.heap.size + 2,0,none⟩ (.slice q.A1 b.al.length q.c1)).setCell ⟨w.heap.size + 2,1,none⟩ (.int .i64 b.n)).setCell ⟨w.heap.size + 2,2,none⟩ (.slice q.A2 b.mr.length q.c2)).setCell ⟨w.heap.size + 2,3,none⟩ (.slice q.A3 b.ed.length q.c3)) := ⟨_,rfl⟩
 rw [← hw7]
 have S7 : Hid (Sep w.heap.size w [eInts b.al (.slice q.A1 b.al.length q.c1),eInts b.mr (.slice q.A2 b.mr.length q.c2),eEds b.ed (.slice q.A3 b.ed.length q.c3),eInts (evV s1 5) (.slice Aeb (evV s1 5).length ceb),eInts a.al (.slice p.A1 a.al.length p.c1),eInts a.mr (.slice p.A2 a.mr.length p.c2),eEds a.ed (.slice p.A3 a.ed.length p.c3),eInts (evV s0 5) (.slice Aea (evV s0 5).length cea),eBlk (w.heap.size + 2) 35 [.slice q.A1 b.al.length q.c1,.int .i64 b.n,.slice q.A2 b.mr.length q.c2,.slice q.A3 b.ed.length q.c3],eBlk (w.heap.size + 1) 35 [.slice p.A1 a.al.length p.c1,.int .i64 a.n,.slice p.A2 a.mr.length p.c2,.slice p.A3 a.ed.length p.c3],eBlk w.heap.size 30 (twoCells s0 s1 g0 g1)] w7) := by rw [hw7]; exact ((((S6.out.set 8 rfl 0 (.slice q.A1 b.al.length q.c1)).set 8 rfl 1 (.int .i64 b.n)).set 8 rfl 2 (.slice q.A2 b.mr.length q.c2)).set 8 rfl 3 (.slice q.A3 b.ed.length q.c3))
 clear hw7 sc0 sf0 sc1 sf1 sc2 sf2 sc3 sf3
 refine hK.out _ _ ?_ (fun hHeld => ?_)
 · exact S7.out.pick [10] (by decide)
 clear hK K
 try simp only [List.getElem_toArray,List.getElem_cons_zero,List.getElem_cons_succ,Act.put,List.setIfInBounds_toArray,List.set_cons_zero,List.set_cons_succ]
 refine wpAnyH_done (by kernel_rfl) ?_ _
 have r0 := BlkAt.cell (S7.out.get 9 rfl) 0
 have r1 := BlkAt.cell (S7.out.get 9 rfl) 1
 have r2 := BlkAt.cell (S7.out.get 9 rfl) 2
 have r3 := BlkAt.cell (S7.out.get 9 rfl) 3
 have u0 := BlkAt.cell (S7.out.get 8 rfl) 0
 have u1 := BlkAt.cell (S7.out.get 8 rfl) 1
 have u2 := BlkAt.cell (S7.out.get 8 rfl) 2
 have u3 := BlkAt.cell (S7.out.get 8 rfl) 3
 simp only [List.getElem?_cons_succ,List.getElem?_cons_zero] at r0 r1 r2 r3 u0 u1 u2 u3
 have SF : Hid (Sep w.heap.size w (eAu a p ++ eAu b q) w7) := S7.out.pick [4,5,6,0,1,2] (by decide)
 go_wp2_with fail
 refine bodyPost_ret (v := .tuple #[a.val p,b.val q]) (by simp [results,Tryd.results14,go_sem,Au.val, *]) rfl ?_
 exact ⟨a,p,b,q,rfl,SF.out,FA.out,FB.out⟩
end Go.Proofs.YtkifgffhoenaoaaDoor

namespace Go.Proofs.YtkifgffhoenaoaaDoor
open Go.RowKit
set_option linter.unusedSimpArgs false
set_option linter.unusedVariables false
set_option maxRecDepth 100000

theorem twoAns {P Q : List Int → Prop} (hPQ : ∀ u,P u ↔ Q u) {f g : Bool} {l m : List Int} (hf : f = false ∧ LeastW P l ∨ f = true ∧ l = [] ∧ ∀ u,¬ P u) (hg : g = true ∧ LeastW Q m ∨ g = false ∧ m = [] ∧ ∀ u,¬ Q u) : f = !g ∧ l = m := by
 rcases hg with ⟨rfl,h⟩ | ⟨rfl,rfl,h⟩
 · rcases hf with ⟨rfl,k⟩ | ⟨_,_,k⟩
   · exact ⟨rfl,(k.congr hPQ).uniq h⟩
   · exact absurd ((hPQ _).2 h.is) (k _)
 · rcases hf with ⟨_,k⟩ | ⟨rfl,rfl,_⟩
   · exact absurd ((hPQ _).1 k.is) (h _)
   · exact ⟨rfl,rfl⟩
theorem inV_pos {a : Au} {s kind : Int} (h : inV a s kind = true) : 0 ≤ s := by
 unfold inV at h
 simp at h
 exact h.1
theorem inc_over {a b : Au} (ha : a.Right) (hb : b.Right) (kind : Int) (u : List Int) : LeadsTo (stp2 a b) (a.st,b.st) a.al (fun q => incP a b kind q = true) u ↔ LeadsTo (stp2 a b) (a.st,b.st) (unionV a.al b.al) (fun q => inc9 a b kind false q = true) u := by
 rw [leads2 ha hb,leads2 ha hb]
 have e : inc9 a b kind false (rn a u,rn b u) = incP a b kind (rn a u,rn b u) := by simp [inc9,incP]
 rw [e]
 constructor
 · rintro ⟨h,hp⟩
   exact ⟨fun x hx => (mem_unionV _ _ _ (Nat.le_refl _) x).2 (.inl (h x hx)),hp⟩
 · rintro ⟨_,hp⟩
   refine ⟨rn_over ha u ?_,hp⟩
   unfold incP at hp
   simp only [Bool.and_eq_true] at hp
   exact inV_pos hp.1
set_option maxHeartbeats 16000000 in
theorem lawInc_c (s0 s1 : Int) (g0 g1 : Gr) (w : World) (h0 : 0 ≤ s0 ∧ s0 < 256) (h1 : 0 ≤ s1 ∧ s1 < 256) (hg0 : g0.Ok) (hg1 : g1.Ok) (ht : TabW w) :
 Calls Tryd.prog 3 #[.agg (twoCells s0 s1 g0 g1).toArray] w (Ret (.bool true) w) := by
 have H0 := Lib.hid h0
 have H1 := Lib.hid h1
 have HG0 := Lib.hid hg0
 have HG1 := Lib.hid hg1
 have HTAB := Lib.hid ht
 clear h0 h1 hg0 hg1 ht
 go_enter Tryd.func3,Tryd.ntmps3
 generalize hcs : twoCells s0 s1 g0 g1 = cs
 go_upto_region 1 with fail
 refine wp_world (fun W => Sep w.heap.size w [eBlk w.heap.size 30 cs] W) ?_ fun W S => ?_
 · exact (Sep.here w).alloc' _ cs rfl rfl
 rw [← hcs] at S
 have SA := Lib.hid S
 clear S hcs
 go_wp2_with fail
 refine (known_c W (HTAB.out.below SA.out.below)).mono ?_
 rintro e w1 ⟨rfl,hb⟩
 have SB : Hid (Sep w.heap.size w [eBlk w.heap.size 30 (twoCells s0 s1 g0 g1)] w1) := SA.out.next hb
 clear hb SA
 go_wp2_with (refine wpList_load_mid rfl 30 (.tmp 1) rfl w.heap.size 0 rfl (twoCells s0 s1 g0 g1) _ (BlkAt.rng (SB.out.get 0 rfl) (fun j v hv => by rw [Nat.zero_add]; exact hv)) Tryd.underlying30 rfl (by kernel_rfl) ?_)
 refine (make9_c s0 s1 g0 g1 w1 H0.out H1.out HG0.out HG1.out).mono ?_
 rintro e w3 ⟨a,⟨A1,a1,A2,a2,A3,a3⟩,b,⟨B1,b1,B2,b2,B3,b3⟩,rfl,TT,GA,GB⟩
 have SD : Hid (Sep w.heap.size w [eInts a.al (.slice A1 a.al.length a1),eInts a.mr (.slice A2 a.mr.length a2),eEds a.ed (.slice A3 a.ed.length a3),eInts b.al (.slice B1 b.al.length b1),eInts b.mr (.slice B2 b.mr.length b2),eEds b.ed (.slice B3 b.ed.length b3),eBlk w.heap.size 30 (twoCells s0 s1 g0 g1)] w3) := SB.out.news TT.out
 clear TT SB
 dsimp only [Au.val]
 obtain ⟨ta,hta⟩ : ∃ g,g = w3.heap.size := ⟨_,rfl⟩
 go_upto_region 4 with fail
 rw [← hta]
 refine wp_world (fun V => Sep w.heap.size w [eBlk (ta + 1) 35 [.slice B1 b.al.length b1,.int .i64 b.n,.slice B2 b.mr.length b2,.slice B3 b.ed.length b3],eBlk ta 35 [.slice A1 a.al.length a1,.int .i64 a.n,.slice A2 a.mr.length a2,.slice A3 a.ed.length a3],eInts a.al (.slice A1 a.al.length a1),eInts a.mr (.slice A2 a.mr.length a2),eEds a.ed (.slice A3 a.ed.length a3),eInts b.al (.slice B1 b.al.length b1),eInts b.mr (.slice B2 b.mr.length b2),eEds b.ed (.slice B3 b.ed.length b3),eBlk w.heap.size 30 (twoCells s0 s1 g0 g1)] V) ((SD.out.alloc' _ [_,_,_,_] rfl hta).alloc' _ [_,_,_,_] rfl (by rw [hta]; simp)) fun W0 S' => ?_
 have Q1 : Sep w.heap.size w [eBlk (ta + 1) 35 [.slice B1 b.al.length b1,.int .i64 b.n,.slice B2 b.mr.length b2,.slice B3 b.ed.length b3],eInts b.al (.slice B1 b.al.length b1),eInts b.mr (.slice B2 b.mr.length b2),eEds b.ed (.slice B3 b.ed.length b3),eBlk ta 35 [.slice A1 a.al.length a1,.int .i64 a.n,.slice A2 a.mr.length a2,.slice A3 a.ed.length a3],eInts a.al (.slice A1 a.al.length a1),eInts a.mr (.slice A2 a.mr.length a2),eEds a.ed (.slice A3 a.ed.length a3)] W0 := S'.pick [0,5,6,7,1,2,3,4] (by decide)
 have Q2 : Sep w.heap.size w [eBox (ta + 1) b ⟨B1,b1,B2,b2,B3,b3⟩,eBlk ta 35 [.slice A1 a.al.length a1,.int .i64 a.n,.slice A2 a.mr.length a2,.slice A3 a.ed.length a3],eInts a.al (.slice A1 a.al.length a1),eInts a.mr (.slice A2 a.mr.length a2),eEds a.ed (.slice A3 a.ed.length a3)] W0 := Q1.box
 have Q3 : Sep w.heap.size w [eBlk ta 35 [.slice A1 a.al.length a1,.int .i64 a.n,.slice A2 a.mr.length a2,.slice A3 a.ed.length a3],eInts a.al (.slice A1 a.al.length a1),eInts a.mr (.slice A2 a.mr.length a2),eEds a.ed (.slice A3 a.ed.length a3),eBox (ta + 1) b ⟨B1,b1,B2,b2,B3,b3⟩] W0 := Q2.pick [1,2,3,4,0] (by decide)
 have S0 : Hid (Sep w.heap.size w [eBox ta a ⟨A1,a1,A2,a2,A3,a3⟩,eBox (ta + 1) b ⟨B1,b1,B2,b2,B3,b3⟩] W0) := Q3.box
 clear S' SD hta Q1 Q2 Q3
 have HLa := Lib.hid GA.out.lens
 have HLb := Lib.hid GB.out.lens
 have na : a.n.toNat ≤ 5 := by have := GA.out.n; omega
 have nb : b.n.toNat ≤ 5 := by have := GB.out.n; omega
 go_wp2_with fail
 go_loopw [5,6,7,8,9,10] (fun x _ _ _ _ _ wr => ∃ (k : Nat),x = .int .i64 (k : Int) ∧ 1 ≤ k ∧ k ≤ 3 ∧ Hid (Sep w.heap.size w [eBox ta a ⟨A1,a1,A2,a2,A3,a3⟩,eBox (ta + 1) b ⟨B1,b1,B2,b2,B3,b3⟩] wr)) (fun x _ _ _ _ _ _ => 3 - (intOf x).toNat)
 case atStart => exact ⟨1,rfl,by omega,by omega,S0.out⟩
 case round =>
  clear S0
  obtain ⟨k,rfl,hk1,hk3,S⟩ := hrel
  by_cases hlt : k ≤ 2
  · have hk : (k : Int) = 1 ∨ (k : Int) = 2 := by omega
    have hk2 : decide ((k : Int) ≤ 2) = true := by simp; omega
    have la0 := BlkAt.cell (S.out.get 0 rfl).1 0
    have la1 := BlkAt.cell (S.out.get 0 rfl).1 1
    have la2 := BlkAt.cell (S.out.get 0 rfl).1 2
    have la3 := BlkAt.cell (S.out.get 0 rfl).1 3
    simp only [List.getElem?_cons_succ,List.getElem?_cons_zero] at la0 la1 la2 la3
    have lb0 := BlkAt.cell (S.out.get 1 rfl).1 0
    have lb1 := BlkAt.cell (S.out.get 1 rfl).1 1
    have lb2 := BlkAt.cell (S.out.get 1 rfl).1 2
    have lb3 := BlkAt.cell (S.out.get 1 rfl).1 3
    simp only [List.getElem?_cons_succ,List.getElem?_cons_zero] at lb0 lb1 lb2 lb3
    go_wp2_with fail
    refine (included_c a b ⟨A1,a1,A2,a2,A3,a3⟩ ⟨B1,b1,B2,b2,B3,b3⟩ (k : Int) wr (eBox.at (S.out.get 0 rfl) HLa.out) (eBox.at (S.out.get 1 rfl) HLb.out) GA.out.rt GB.out.rt (Nat.le_trans (Nat.mul_le_mul (show a.n.toNat + 2 ≤ 7 by omega) (show b.n.toNat + 2 ≤ 7 by omega)) (by decide)) hk (by simp [incP,inV_none])).mono ?_
    rintro e v2 ⟨AW,cW,l,f,rfl,HW,hb,HF⟩
    have S2 : Hid (Sep w.heap.size w [eBox ta a ⟨A1,a1,A2,a2,A3,a3⟩,eBox (ta + 1) b ⟨B1,b1,B2,b2,B3,b3⟩] v2) := S.out.next hb
    clear hb S la0 la1 la2 la3 lb0 lb1 lb2 lb3
    have la0 := BlkAt.cell (S2.out.get 0 rfl).1 0
    have la1 := BlkAt.cell (S2.out.get 0 rfl).1 1
    have la2 := BlkAt.cell (S2.out.get 0 rfl).1 2
    have la3 := BlkAt.cell (S2.out.get 0 rfl).1 3
    simp only [List.getElem?_cons_succ,List.getElem?_cons_zero] at la0 la1 la2 la3
    have lb0 := BlkAt.cell (S2.out.get 1 rfl).1 0
    have lb1 := BlkAt.cell (S2.out.get 1 rfl).1 1
    have lb2 := BlkAt.cell (S2.out.get 1 rfl).1 2
    have lb3 := BlkAt.cell (S2.out.get 1 rfl).1 3
    simp only [List.getElem?_cons_succ,List.getElem?_cons_zero] at lb0 lb1 lb2 lb3
    go_wp2_with fail
    refine (inc9_c a b ⟨A1,a1,A2,a2,A3,a3⟩ ⟨B1,b1,B2,b2,B3,b3⟩ (k : Int) false v2 GA.out.rt GB.out.rt (eBox.at (S2.out.get 0 rfl) HLa.out) (eBox.at (S2.out.get 1 rfl) HLb.out) (Nat.le_trans (Nat.mul_le_mul (show a.n.toNat + 1 ≤ 6 by omega) (show b.n.toNat + 1 ≤ 6 by omega)) (by decide))).mono ?_
    rintro e v4 ⟨AM,cM,m,g,rfl,HM,hb,hml,HG⟩
    have S4 : Hid (Sep w.heap.size w [eBox ta a ⟨A1,a1,A2,a2,A3,a3⟩,eBox (ta + 1) b ⟨B1,b1,B2,b2,B3,b3⟩] v4) := S2.out.next hb
    have HW2 := Lib.hid (HW.out.below IntE.stays hb)
    obtain ⟨rfl,rfl⟩ := twoAns (inc_over GA.out.rt GB.out.rt (k : Int)) HF.out HG.out
    clear hb S2 HW HG HF la0 la1 la2 la3 lb0 lb1 lb2 lb3
    have hgg : ((!g) == g) = false := by cases g <;> rfl
    go_wp2_with fail
    refine (same_c AW AM cW cM l l v4 HW2.out HM.out (by omega) (by omega)).mono ?_
    intro e v5 hs
    obtain ⟨rfl,hb⟩ := hs.yes2 rfl
    have S5 : Hid (Sep w.heap.size w [eBox ta a ⟨A1,a1,A2,a2,A3,a3⟩,eBox (ta + 1) b ⟨B1,b1,B2,b2,B3,b3⟩] v5) := S4.out.next hb
    clear hb S4
    go_wp2_with fail
    go_roundw
    case rel => exact ⟨k + 1,by go_num,by omega,by omega,S5.out⟩
    case measure => simp [intOf]; omega
  · obtain rfl : k = 3 := by omega
    go_wp2_with fail
    go_ret
    exact ⟨rfl,S.out.below⟩
end Go.Proofs.YtkifgffhoenaoaaDoor

namespace Go.Proofs.YtkifgffhoenaoaaDoor
open Go.ChangeShapes Go.WideShapes Go.ChangeAt Go.RowKit
set_option linter.unusedSimpArgs false
set_option linter.unusedVariables false
set_option maxRecDepth 100000
section
variable {H : Type} {enc : TypeId × Value → H} {w : World} {base : Nat} {spare : Nat → Bool} {held : Bool}

theorem u8_bounds {n : Int} (h : (Lit.int .u8 n).wf = true) : 0 ≤ n ∧ n < 256 := by
 simp [Lit.wf,IntKind.min,IntKind.max,IntKind.signed,IntKind.bits] at h; omega
theorem list5 {α : Type} {cs : List α} (h : cs.length = 5) : ∃ c0 c1 c2 c3 c4,cs = [c0,c1,c2,c3,c4] := by
 match cs,h with
 | [c0,c1,c2,c3,c4],_ => exact ⟨c0,c1,c2,c3,c4,rfl⟩
theorem cut5 {α : Type} {cs : List α} (h : cs.length = 25) : cs = (cs.drop 0).take 5 ++ ((cs.drop 5).take 5 ++ ((cs.drop 10).take 5 ++ ((cs.drop 15).take 5 ++ (cs.drop 20).take 5))) := by
 have e4 : (cs.drop 20).take 5 = cs.drop 20 := List.take_of_length_le (by simp [h])
 have e3 : (cs.drop 15).take 5 ++ cs.drop 20 = cs.drop 15 := by have := List.take_append_drop 5 (cs.drop 15); rwa [List.drop_drop] at this
 have e2 : (cs.drop 10).take 5 ++ cs.drop 15 = cs.drop 10 := by have := List.take_append_drop 5 (cs.drop 10); rwa [List.drop_drop] at this
 have e1 : (cs.drop 5).take 5 ++ cs.drop 10 = cs.drop 5 := by have := List.take_append_drop 5 (cs.drop 5); rwa [List.drop_drop] at this
 rw [e4,e3,e2,e1,List.drop_zero,List.take_append_drop]

theorem b5_of {P : Program} {t e : TypeId} (ht : P.underlying t = some (.array 5 e)) (he : P.underlying e = some (.int .u8)) (hc : P.cellsOf t = 5) (hce : P.cellsOf e = 1) {fuel : Nat} {cs : List Value} {x : DataW H × List MemPlace}
 (h : DataW.trod enc P w base spare held fuel t cs = some x) : ∃ f : B5,f.Ok ∧ cs = f.cells := by
 obtain ⟨xs,m,_,_,hl,hlen,hf⟩ := DataW.trod_array ht h
 obtain ⟨c0,c1,c2,c3,c4,rfl⟩ := list5 (hl.trans hc)
 have g : ∀ i,i < 5 → ∀ c,([c0,c1,c2,c3,c4].drop i).take 1 = [c] → ∃ n,c = .int .u8 n ∧ 0 ≤ n ∧ n < 256 := fun i hi c hcc => by
  have h1 := hf i hi
  rw [hce,Nat.mul_one,hcc,List.getElem?_eq_getElem (by omega)] at h1
  obtain ⟨n,hn,_,hw⟩ := DataW.trod_int he h1
  cases hn
  exact ⟨n,rfl,u8_bounds hw⟩
 obtain ⟨x0,rfl,b0⟩ := g 0 (by omega) c0 rfl
 obtain ⟨x1,rfl,b1⟩ := g 1 (by omega) c1 rfl
 obtain ⟨x2,rfl,b2⟩ := g 2 (by omega) c2 rfl
 obtain ⟨x3,rfl,b3⟩ := g 3 (by omega) c3 rfl
 obtain ⟨x4,rfl,b4⟩ := g 4 (by omega) c4 rfl
 exact ⟨⟨x0,x1,x2,x3,x4⟩,⟨fun x hx => by
  simp only [List.mem_cons,List.not_mem_nil,or_false] at hx
  rcases hx with rfl | rfl | rfl | rfl | rfl <;> assumption⟩,rfl⟩

theorem b25_of {P : Program} {t e e' : TypeId} (ht : P.underlying t = some (.array 5 e)) (he : P.underlying e = some (.array 5 e')) (he' : P.underlying e' = some (.int .u8)) (hc : P.cellsOf t = 25) (hce : P.cellsOf e = 5) (hce' : P.cellsOf e' = 1) {fuel : Nat} {cs : List Value} {x : DataW H × List MemPlace}
 (h : DataW.trod enc P w base spare held fuel t cs = some x) : ∃ r0 r1 r2 r3 r4 : B5,r0.Ok ∧ r1.Ok ∧ r2.Ok ∧ r3.Ok ∧ r4.Ok ∧ cs = r0.cells ++ (r1.cells ++ (r2.cells ++ (r3.cells ++ r4.cells))) := by
 obtain ⟨xs,m,_,_,hl,hlen,hf⟩ := DataW.trod_array ht h
 have g : ∀ i,i < 5 → ∃ f : B5,f.Ok ∧ (cs.drop (i * 5)).take 5 = f.cells := fun i hi => by
  have h1 := hf i hi
  rw [hce,List.getElem?_eq_getElem (by omega)] at h1
  exact b5_of he he' hce hce' h1
 obtain ⟨r0,o0,e0⟩ := g 0 (by omega)
 obtain ⟨r1,o1,e1⟩ := g 1 (by omega)
 obtain ⟨r2,o2,e2⟩ := g 2 (by omega)
 obtain ⟨r3,o3,e3⟩ := g 3 (by omega)
 obtain ⟨r4,o4,e4⟩ := g 4 (by omega)
 refine ⟨r0,r1,r2,r3,r4,o0,o1,o2,o3,o4,?_⟩
 rw [← e0,← e1,← e2,← e3,← e4]
 exact cut5 (hl.trans hc)

theorem gr_of {fuel : Nat} {cs : List Value} {x : DataW H × List MemPlace} (h : DataW.trod enc Tryd.prog w base spare held fuel 27 cs = some x) : ∃ g : Gr,g.Ok ∧ cs = g.cells := by
 obtain ⟨xs,n,_,_,hl,hlen,hf⟩ := DataW.trod_struct Tryd.underlying27 h
 have hC : Tryd.prog.cellsOf 27 = 27 := by kernel_rfl
 have c1 : Tryd.prog.cellsOf 5 = 1 := by kernel_rfl
 have c25 : Tryd.prog.cellsOf 25 = 25 := by kernel_rfl
 rw [hC] at hl
 have e3 : xs.length = 3 := hlen
 have h0 : DataW.trod enc Tryd.prog w base spare held n 5 ((cs.drop 0).take (Tryd.prog.cellsOf 5)) = some xs[0] := by
  have := hf 0 _ rfl; rw [List.getElem?_eq_getElem (by omega)] at this; exact this
 rw [c1] at h0
 have h1 : DataW.trod enc Tryd.prog w base spare held n 5 ((cs.drop 1).take (Tryd.prog.cellsOf 5)) = some xs[1] := by
  have := hf 1 _ rfl; rw [List.getElem?_eq_getElem (by omega)] at this; exact this
 rw [c1] at h1
 have h2 : DataW.trod enc Tryd.prog w base spare held n 25 ((cs.drop 2).take (Tryd.prog.cellsOf 25)) = some xs[2] := by
  have := hf 2 _ rfl; rw [List.getElem?_eq_getElem (by omega)] at this; exact this
 rw [c25] at h2
 obtain ⟨s,hs,_,ws⟩ := DataW.trod_int Tryd.underlying5 h0
 obtain ⟨m,hm,_,wm⟩ := DataW.trod_int Tryd.underlying5 h1
 obtain ⟨r0,r1,r2,r3,r4,o0,o1,o2,o3,o4,hr⟩ := b25_of Tryd.underlying25 Tryd.underlying24 Tryd.underlying5 (by kernel_rfl) (by kernel_rfl) (by kernel_rfl) h2
 refine ⟨⟨s,m,r0,r1,r2,r3,r4⟩,⟨u8_bounds ws,u8_bounds wm,o0,o1,o2,o3,o4⟩,?_⟩
 have a0 : cs.drop 0 = (cs.drop 0).take 1 ++ cs.drop 1 := by have := List.take_append_drop 1 (cs.drop 0); rw [List.drop_drop] at this; exact this.symm
 have a1 : cs.drop 1 = (cs.drop 1).take 1 ++ cs.drop 2 := by have := List.take_append_drop 1 (cs.drop 1); rw [List.drop_drop] at this; exact this.symm
 have a2 : (cs.drop 2).take 25 = cs.drop 2 := List.take_of_length_le (by simp [hl])
 rw [hr] at a2
 rw [← a2,hm] at a1
 rw [a1,hs] at a0
 rw [← List.drop_zero (l := cs),a0]
 rfl
theorem arr2_of {P : Program} {t e : TypeId} {k : Nat} (ht : P.underlying t = some (.array 2 e)) (hc : P.cellsOf t = k + k) (hce : P.cellsOf e = k) {fuel : Nat} {cs : List Value} {x : DataW H × List MemPlace}
 (h : DataW.trod enc P w base spare held fuel t cs = some x) : ∃ (d0 d1 : List Value) (y0 y1 : DataW H × List MemPlace) (m : Nat),cs = d0 ++ d1 ∧ DataW.trod enc P w base spare held m e d0 = some y0 ∧ DataW.trod enc P w base spare held m e d1 = some y1 := by
 obtain ⟨xs,m,_,_,hl,hlen,hf⟩ := DataW.trod_array ht h
 rw [hc] at hl
 have h0 := hf 0 (by decide)
 have h1 := hf 1 (by decide)
 rw [hce,List.getElem?_eq_getElem (by omega)] at h0 h1
 rw [Nat.zero_mul,List.drop_zero] at h0
 rw [Nat.one_mul,List.take_of_length_le (by simp; omega)] at h1
 exact ⟨cs.take k,cs.drop k,_,_,m,(List.take_append_drop k cs).symm,h0,h1⟩
theorem gr_in {v : Value} {d : DataW H} {p : List MemPlace} {r : Reach} {b0 : Nat} (hv : Value.okWide Tryd.prog w r b0 27 v) (h : DataW.Trod enc Tryd.prog w base spare held 27 v d p) :
 ∃ g : Gr,v = .agg g.cells.toArray ∧ g.Ok := by
 obtain ⟨⟨cs⟩,rfl,hsz⟩ := okWide_struct Tryd.underlying27 hv
 obtain ⟨fuel,hf0⟩ := h
 have hf : DataW.trod enc Tryd.prog w base spare held fuel 27 cs = some (d,p) := by simpa [Value.cells] using hf0
 obtain ⟨g,og,rfl⟩ := gr_of hf
 exact ⟨g,rfl,og⟩
theorem two_in {v : Value} {d : DataW H} {p : List MemPlace} {r : Reach} {b0 : Nat} (hv : Value.okWide Tryd.prog w r b0 30 v) (h : DataW.Trod enc Tryd.prog w base spare held 30 v d p) :
 ∃ (s0 s1 : Int) (g0 g1 : Gr),v = .agg (twoCells s0 s1 g0 g1).toArray ∧ (0 ≤ s0 ∧ s0 < 256) ∧ (0 ≤ s1 ∧ s1 < 256) ∧ g0.Ok ∧ g1.Ok := by
 obtain ⟨⟨cs⟩,rfl,hsz⟩ := okWide_struct Tryd.underlying30 hv
 obtain ⟨fuel,hf0⟩ := h
 have hf : DataW.trod enc Tryd.prog w base spare held fuel 30 cs = some (d,p) := by simpa [Value.cells] using hf0
 obtain ⟨c0,c1,y0,y1,n0,n1,rfl,h0,h1⟩ := st2_of Tryd.underlying30 (by kernel_rfl) hf
 obtain ⟨d0,d1,_,_,m,rfl,t0,t1⟩ := arr2_of (k := 1) Tryd.underlying23 (by kernel_rfl) (by kernel_rfl) h0
 obtain ⟨e0,e1,_,_,m',rfl,u0,u1⟩ := arr2_of (k := 27) Tryd.underlying28 (by kernel_rfl) (by kernel_rfl) h1
 obtain ⟨s0,rfl,_,w0⟩ := DataW.trod_int Tryd.underlying22 t0
 obtain ⟨s1,rfl,_,w1⟩ := DataW.trod_int Tryd.underlying22 t1
 obtain ⟨g0,o0,rfl⟩ := gr_of u0
 obtain ⟨g1,o1,rfl⟩ := gr_of u1
 exact ⟨s0,s1,g0,g1,rfl,u8_bounds w0,u8_bounds w1,o0,o1⟩
end
end Go.Proofs.YtkifgffhoenaoaaDoor

