/-
  overseerref09.Combine.
  overseerref03.SameInts and Same, at equal data.
  overseerlaw03.Make: which automaton it makes.
  overseerlaw09.Make: two described automata.
-/
import Derived.Test.YtkifgffhoenaoaaDoorBas01
import Derived.Test.YtkifgffhoenaoaaDoorPxx05
import Derived.Deep.CutBlock
import Derived.Test.YtkifgffhoenaoaaDoorBas07
import Derived.BigQuiet
import Derived.Test.YtkifgffhoenaoaaDoorPxx02
import Derived.Test.YtkifgffhoenaoaaDoorBas17
set_option linter.unusedSimpArgs false
set_option linter.unusedVariables false
namespace Go.Proofs.YtkifgffhoenaoaaDoor
open Go.RowKit
set_option maxRecDepth 100000
theorem find9_e (A : Option Addr) (c : Nat) (raw : List PrV) (l : List Pr) (x y r : Int) (w : World) {n : Nat} {w0 : World} {Es : List Ent} {fs : List Nat} (S : Sep n w0 Es w) (i j : Nat) (hi : Es[i]? = some (eWds fs raw l)) (hj : Es[j]? = some (eOwn PrV.cells 3 82 raw (.slice A raw.length c))) (hnd : (prsOf l).Nodup) (hl : ∀ p,p ∈ l → p.w.length ≤ 1000000) (hlen0 : raw.length ≤ 4096) (hr : posK (prsOf l) (x,y) = r) :
 Calls Tryd.prog 47 #[.slice A raw.length c,.int .i64 x,.int .i64 y] w (fun e w' => e = .returned (.int .i64 r) ∧ w = w') := by
 have hrl : raw.length = l.length := (S.get i hi).1
 have hlen : l.length ≤ 140737488355328 := by
  omega
 have h := find9_c A c l x y w (PrsAt.of S i j hi hj fun p hp => Nat.le_trans (hl p hp) (by decide)) hlen
 rw [← hrl] at h
 refine h.mono ?_
 rintro e w' ⟨q,rfl,hf,rfl⟩
 refine ⟨?_,rfl⟩
 rcases hf.out with ⟨rfl,hm⟩ | ⟨t,rfl,ht⟩
 · rw [← hr,posK_no (l := prsOf l) hm]
 · rw [← hr,posK_get (l := prsOf l) hnd ht]
def HowOk (how : Int) (ch : Bool → Bool → Bool) : Prop := (how = 1 ∧ ch = fun x y => x && y) ∨ (how = 2 ∧ ch = fun x y => x || y) ∨ (how = 3 ∧ ch = fun x y => x && !y)
theorem HowOk.ff {how : Int} {ch : Bool → Bool → Bool} (h : HowOk how ch) : ch false false = false := by
 rcases h with ⟨_,rfl⟩ | ⟨_,rfl⟩ | ⟨_,rfl⟩ <;> rfl
set_option maxHeartbeats 16000000 in
theorem combine9_c (a b : Au) (p q : AuP) (how : Int) (ch : Bool → Bool → Bool) (w : World) (hh : HowOk how ch) (ha : a.Right) (hb : b.Right) (hA : Au.At w a p) (hB : Au.At w b q) (hN : (a.n.toNat + 1) * (b.n.toNat + 1) ≤ 4096) :
 Calls Tryd.prog 20 #[a.val p,b.val q,.int .i64 how] w (GivesMn (unionV a.al b.al) (CoL a b ch) w) := by
 have HRA := Lib.hid ha
 have HRB := Lib.hid hb
 have HA := Lib.hid hA
 have HB := Lib.hid hB
 have HH := Lib.hid hh
 have hal : a.al.length ≤ 32 := by simpa using ha.al.short
 have hbl : b.al.length ≤ 32 := by simpa using hb.al.short
 have hul : (unionV a.al b.al).length ≤ 32 := unionL_len ha hb
 have HN := Lib.hid hN
 obtain ⟨al,n,mr,ed⟩ := a
 obtain ⟨A1,c1,A2,c2,A3,c3⟩ := p
 obtain ⟨bl,k,ms,es⟩ := b
 obtain ⟨B1,d1,B2,d2,B3,d3⟩ := q
 try dsimp only [Au.val] at *
 clear ha hb hA hB hh hN
 go_enter Tryd.func20,Tryd.ntmps20
 go_upto_region 1 with fail
 refine wp_world (fun W => Sep w.heap.size w [eBlk (w.heap.size + 2) 35 [.slice none 0 0,.int .i64 0,.slice none 0 0,.slice none 0 0],eBlk (w.heap.size + 1) 35 [.slice B1 bl.length d1,.int .i64 k,.slice B2 ms.length d2,.slice B3 es.length d3],eBlk w.heap.size 35 [.slice A1 al.length c1,.int .i64 n,.slice A2 mr.length c2,.slice A3 ed.length c3]] W) ?_ fun W S => ?_
 · exact (((Sep.here w).alloc' _ [_,_,_,_] rfl rfl).alloc' _ [_,_,_,_] rfl (by simp)).alloc' _ [_,_,_,_] rfl (by simp)
 have S0 := Lib.hid S
 clear S
 have a0 := ckC S0.out 2 rfl 0 rfl
 have a1 := ckC S0.out 2 rfl 1 rfl
 have a2 := ckC S0.out 2 rfl 2 rfl
 have a3 := ckC S0.out 2 rfl 3 rfl
 have b0 := ckC S0.out 1 rfl 0 rfl
 have b1 := ckC S0.out 1 rfl 1 rfl
 have b2 := ckC S0.out 1 rfl 2 rfl
 have b3 := ckC S0.out 1 rfl 3 rfl
 go_wp2_with fail
 refine (pairs_c ⟨al,n,mr,ed⟩ ⟨bl,k,ms,es⟩ ⟨A1,c1,A2,c2,A3,c3⟩ ⟨B1,d1,B2,d2,B3,d3⟩ W HRA.out HRB.out (HA.out.below S0.out.below) (HB.out.below S0.out.below) (Nat.le_trans HN.out (by decide))).mono ?_
 rintro e W1 ⟨raw,l,AR,cR,fs,rfl,T,PL,PS⟩
 have S1 := ckN S0.out T.out
 clear T S0 PS a0 a1 a2 a3 b0 b1 b2 b3
 have hrl : Hid (raw.length = l.length) := (S1.out.get 0 rfl).1
 have hlen : raw.length ≤ 4096 := by rw [hrl.out]; exact Nat.le_trans (PL.out.len HRA.out HRB.out) HN.out
 have HND : Hid (prsOf l).Nodup := PL.out.nd
 have HLW : Hid (∀ p,p ∈ l → p.w.length ≤ 1000000) := fun p hp => by
  obtain ⟨j,hj,rfl⟩ := List.mem_iff_getElem.1 hp
  have h1 := PL.out.word (List.getElem?_eq_getElem hj)
  have h2 := hrl.out
  omega
 have RT := Lib.hid (comb_right HRA.out HRB.out PL.out ch HN.out)
 have LG : Hid (∀ u,rn (combV ⟨al,n,mr,ed⟩ ⟨bl,k,ms,es⟩ ch l) u ∈ (combV ⟨al,n,mr,ed⟩ ⟨bl,k,ms,es⟩ ch l).mr ↔ CoL ⟨al,n,mr,ed⟩ ⟨bl,k,ms,es⟩ ch u) := fun u => comb_lang HRA.out HRB.out PL.out HH.out.ff HN.out u
 have a0 := ckC S1.out 4 rfl 0 rfl
 have b0 := ckC S1.out 3 rfl 0 rfl
 go_wp2_with fail
 refine (u01_c A1 B1 c1 d1 al bl W1 (HA.out.below S1.out.below).al (HB.out.below S1.out.below).al (by omega)).mono ?_
 rintro e W2 ⟨AL,cL,rfl,HO,hb⟩
 obtain ⟨ul,hule⟩ : ∃ ul,unionV al bl = ul := ⟨_,rfl⟩
 rw [hule] at HO hul ⊢
 have HUE := Lib.hid hule
 have HALN : Hid (AL = none → cL = 0) := fun h => (Own.none HO.out h).2
 have S2 : Hid (Sep w.heap.size w [eInts ul (.slice AL ul.length cL),eWds fs raw l,eOwn PrV.cells 3 82 raw (.slice AR raw.length cR),eBlk (w.heap.size + 2) 35 [.slice none 0 0,.int .i64 0,.slice none 0 0,.slice none 0 0],eBlk (w.heap.size + 1) 35 [.slice B1 bl.length d1,.int .i64 k,.slice B2 ms.length d2,.slice B3 es.length d3],eBlk w.heap.size 35 [.slice A1 al.length c1,.int .i64 n,.slice A2 mr.length c2,.slice A3 ed.length c3]] W2) := S1.out.newI HO.out hb
 clear hb HO S1 a0 b0 hule
 obtain ⟨nb,hnb⟩ : ∃ g,g = W2.heap.size := ⟨_,rfl⟩
 go_upto_region 3 with fail
 rw [← hnb]
 refine wp_world (fun V => Sep w.heap.size w [eBlk nb 35 [.slice AL ul.length cL,.int .i64 ((raw.length : Nat) : Int),.slice none 0 0,.slice none 0 0],eInts [] (.slice none 0 0),eEds [] (.slice none 0 0),eInts ul (.slice AL ul.length cL),eWds fs raw l,eOwn PrV.cells 3 82 raw (.slice AR raw.length cR),eBlk (w.heap.size + 2) 35 [.slice none 0 0,.int .i64 0,.slice none 0 0,.slice none 0 0],eBlk (w.heap.size + 1) 35 [.slice B1 bl.length d1,.int .i64 k,.slice B2 ms.length d2,.slice B3 es.length d3],eBlk w.heap.size 35 [.slice A1 al.length c1,.int .i64 n,.slice A2 mr.length c2,.slice A3 ed.length c3]] V) ?_ fun V S' => ?_
 · exact (((S2.out.alloc' 35 [.slice AL ul.length cL,.int .i64 ((raw.length : Nat) : Int),.slice none 0 0,.slice none 0 0] rfl hnb).nilOwn encI 1 3).nilOwn Ed.cells 3 87).pick [2,1,0,3,4,5,6,7,8] (by decide)
 have S3 := Lib.hid S'
 clear S' S2 hnb
 go_wp2_with fail
 go_loopw [9,10,11,12,13,14] (fun v9 _ _ _ _ _ wr => ∃ (i : Nat) (v2 v3 : Value),v9 = .int .i64 (i : Int) ∧ i ≤ raw.length ∧ Hid (Sep w.heap.size w [eBlk nb 35 [.slice AL ul.length cL,.int .i64 ((raw.length : Nat) : Int),v2,v3],eInts (mkP ⟨al,n,mr,ed⟩ ⟨bl,k,ms,es⟩ ch l i) v2,eEds (rowsG ul (nxP ⟨al,n,mr,ed⟩ ⟨bl,k,ms,es⟩ l) i) v3,eInts ul (.slice AL ul.length cL),eWds fs raw l,eOwn PrV.cells 3 82 raw (.slice AR raw.length cR),eBlk (w.heap.size + 2) 35 [.slice none 0 0,.int .i64 0,.slice none 0 0,.slice none 0 0],eBlk (w.heap.size + 1) 35 [.slice B1 bl.length d1,.int .i64 k,.slice B2 ms.length d2,.slice B3 es.length d3],eBlk w.heap.size 35 [.slice A1 al.length c1,.int .i64 n,.slice A2 mr.length c2,.slice A3 ed.length c3]] wr)) (fun v9 _ _ _ _ _ _ => raw.length - (intOf v9).toNat)
 case atStart => exact ⟨0,_,_,rfl,Nat.zero_le _,S3.out⟩
 case round =>
  clear S3
  obtain ⟨i,v2,v3,rfl,hi,S⟩ := hrel
  by_cases hlt : i < raw.length
  · obtain ⟨gR,oR,r,rfl,hr⟩ := S.out.prs 5 rfl hlt
    obtain ⟨p,hp⟩ : ∃ p,l[i]? = some p := ⟨_,List.getElem?_eq_getElem (by rw [← hrl.out]; exact hlt)⟩
    obtain ⟨rx,ry,hwn,hwd⟩ := (S.out.get 4 rfl).2.2 i r p hr hp
    obtain ⟨rX,rY,rA,rn_,rc⟩ := r
    dsimp only at rx ry hwn hwd
    subst rx ry hwn
    have HGP := Lib.hid (prs_get hp)
    obtain ⟨hx1,hxe⟩ : ∃ x,inV ⟨al,n,mr,ed⟩ p.x 2 = x := ⟨_,rfl⟩
    obtain ⟨hy1,hye⟩ : ∃ x,inV ⟨bl,k,ms,es⟩ p.y 2 = x := ⟨_,rfl⟩
    have HX1 := Lib.hid hxe
    have HY1 := Lib.hid hye
    obtain ⟨pp,hpp⟩ : ∃ pp,ch hx1 hy1 = pp := ⟨_,rfl⟩
    have HPP : Hid (okQ ⟨al,n,mr,ed⟩ ⟨bl,k,ms,es⟩ ch ((prsOf l).getD i (-1,-1)) = pp) := by rw [Hid,HGP.out,← hpp,← hxe,← hye]; rfl
    have HPC := Lib.hid hpp
    clear hxe hye hwd hpp
    go_upto_region 6 with fail
    go_cut [10,11] (fun x y wx => x = .bool hx1 ∧ y = .bool hy1 ∧ Hid (Sep w.heap.size w [eBlk nb 35 [.slice AL ul.length cL,.int .i64 ((raw.length : Nat) : Int),v2,v3],eInts (mkP ⟨al,n,mr,ed⟩ ⟨bl,k,ms,es⟩ ch l i) v2,eEds (rowsG ul (nxP ⟨al,n,mr,ed⟩ ⟨bl,k,ms,es⟩ l) i) v3,eInts ul (.slice AL ul.length cL),eWds fs raw l,eOwn PrV.cells 3 82 raw (.slice (some ⟨gR,oR,none⟩) raw.length cR),eBlk (w.heap.size + 2) 35 [.slice none 0 0,.int .i64 0,.slice none 0 0,.slice none 0 0],eBlk (w.heap.size + 1) 35 [.slice B1 bl.length d1,.int .i64 k,.slice B2 ms.length d2,.slice B3 es.length d3],eBlk w.heap.size 35 [.slice A1 al.length c1,.int .i64 n,.slice A2 mr.length c2,.slice A3 ed.length c3]] wx))
    case first =>
          have S1 := Lib.hid S.out.drew
          refine wp_region_held_drew (S := (fun V => Sep w.heap.size w [eOwn PrV.cells 3 82 raw (.slice (some ⟨gR,oR,none⟩) raw.length cR),eBlk (w.heap.size + 1) 35 [.slice B1 bl.length d1,.int .i64 k,.slice B2 ms.length d2,.slice B3 es.length d3],eBlk w.heap.size 35 [.slice A1 al.length c1,.int .i64 n,.slice A2 mr.length c2,.slice A3 ed.length c3]] V)) (by kernel_rfl) ?_ (fun hHeld => ?_)
          · exact S1.out.pick [5,7,8] (by decide)
          generalize hwz : wr.drew = w1 at *
          clear hwz
          refine tkH 0 rfl (v := ?_) (by kernel_rfl) ?_ hHeld ?_
          rotate_left
          · intro V hSw
            have a0 := ckC hSw 2 rfl 0 rfl
            have a1 := ckC hSw 2 rfl 1 rfl
            have a2 := ckC hSw 2 rfl 2 rfl
            have a3 := ckC hSw 2 rfl 3 rfl
            clear hSw
            first | (go_simp; done) | (go_simp; with_reducible rfl)
          try simp only [sx]
          refine tkP 1 rfl (v := ?_) hHeld ?_
          try simp only [sx]
          refine tkP 2 rfl (v := ?_) hHeld ?_
          try simp only [sx]
          refine tkP 3 rfl (v := ?_) hHeld ?_
          try simp only [sx]
          refine tkP 4 rfl (v := ?_) hHeld ?_
          try simp only [sx]
          refine tkH 5 rfl (v := ?_) (by kernel_rfl) ?_ hHeld ?_
          rotate_left
          · intro V hSw
            have b0 := (Sep.prAt (show Sep w.heap.size w _ V from hSw) 0 rfl hr).1
            clear hSw
            first | (go_simp; done) | (go_simp; with_reducible rfl)
          try simp only [sx]
          refine tkH 7 rfl (v := ?_) (by kernel_rfl) ?_ hHeld ?_
          rotate_left
          · intro V hSw
            have b0 := ckC hSw 1 rfl 0 rfl
            have b1 := ckC hSw 1 rfl 1 rfl
            have b2 := ckC hSw 1 rfl 2 rfl
            have b3 := ckC hSw 1 rfl 3 rfl
            clear hSw
            first | (go_simp; done) | (go_simp; with_reducible rfl)
          try simp only [sx]
          refine tkP 8 rfl (v := ?_) hHeld ?_
          try simp only [sx]
          refine tkP 9 rfl (v := ?_) hHeld ?_
          try simp only [sx]
          refine tkP 10 rfl (v := ?_) hHeld ?_
          try simp only [sx]
          refine tkP 11 rfl (v := ?_) hHeld ?_
          try simp only [sx]
          refine tkH 12 rfl (v := ?_) (by kernel_rfl) ?_ hHeld ?_
          rotate_left
          · intro V hSw
            have b1 := (Sep.prAt (show Sep w.heap.size w _ V from hSw) 0 rfl hr).2.1
            clear hSw
            first | (go_simp; done) | (go_simp; with_reducible rfl)
          try simp only [sx]
          refine rdH 6 rfl fun K hK => ?_
          go_simp
          refine (has9_e ⟨al,n,mr,ed⟩ ⟨A1,c1,A2,c2,A3,c3⟩ p.x 2 hx1 w1 (HA.out.below S1.out.below).mr HA.out.lmk HX1.out).mono ?_
          rintro e w2 ⟨rfl,hb⟩
          have S2 := Lib.hid (S1.out.next hb)
          clear hb
          refine hK.out _ _ ?_ (fun hHeld => ?_)
          · exact S2.out.pick [5,7,8] (by decide)
          clear hK K
          try simp only [sx]
          refine rdH 13 rfl fun K hK => ?_
          go_simp
          refine (has9_e ⟨bl,k,ms,es⟩ ⟨B1,d1,B2,d2,B3,d3⟩ p.y 2 hy1 w2 (HB.out.below S2.out.below).mr HB.out.lmk HY1.out).mono ?_
          rintro e w3 ⟨rfl,hb⟩
          have S3 := Lib.hid (S2.out.next hb)
          clear hb
          refine hK.out _ _ ?_ (fun hHeld => ?_)
          · exact S3.out.pick [5,7,8] (by decide)
          clear hK K
          try simp only [sx]
          refine tkP 14 rfl (v := ?_) hHeld ?_
          try simp only [sx]
          refine tkP 15 rfl (v := ?_) hHeld ?_
          try simp only [sx]
          refine wpAnyH_done (by kernel_rfl) ?_ _
          go_wp2_with fail
          go_meet
          exact ⟨rfl,rfl,S3.out⟩
    case rest =>
     clear S
     obtain ⟨rfl,rfl,S⟩ := hcut
     go_upto_region 7 with fail
     go_cut [74] (fun v wx => v = .bool pp ∧ wx = wc)
     case first =>
      have hpc := HPC.out
      rcases HH.out with ⟨rfl,rfl⟩ | ⟨rfl,rfl⟩ | ⟨rfl,rfl⟩ <;> cases hx1 <;> cases hy1
      all_goals
       subst hpc
       clear HPC HPP
       go_wp2_with fail
       go_meet
       exact ⟨rfl,rfl⟩
     case rest =>
      obtain ⟨rfl,rfl⟩ := hcut
      have hmq : (mkP ⟨al,n,mr,ed⟩ ⟨bl,k,ms,es⟩ ch l i).length ≤ 1048576 := by have := mkP_len ⟨al,n,mr,ed⟩ ⟨bl,k,ms,es⟩ ch l i; omega
      go_upto_if 74 with fail
      go_cut [74] (fun v wx => ∃ (v2' : Value),Hid (Sep w.heap.size w [eBlk nb 35 [.slice AL ul.length cL,.int .i64 ((raw.length : Nat) : Int),v2',v3],eInts (mkP ⟨al,n,mr,ed⟩ ⟨bl,k,ms,es⟩ ch l (i + 1)) v2',eEds (rowsG ul (nxP ⟨al,n,mr,ed⟩ ⟨bl,k,ms,es⟩ l) i) v3,eInts ul (.slice AL ul.length cL),eWds fs raw l,eOwn PrV.cells 3 82 raw (.slice (some ⟨gR,oR,none⟩) raw.length cR),eBlk (w.heap.size + 2) 35 [.slice none 0 0,.int .i64 0,.slice none 0 0,.slice none 0 0],eBlk (w.heap.size + 1) 35 [.slice B1 bl.length d1,.int .i64 k,.slice B2 ms.length d2,.slice B3 es.length d3],eBlk w.heap.size 35 [.slice A1 al.length c1,.int .i64 n,.slice A2 mr.length c2,.slice A3 ed.length c3]] wx))
      case first =>
       cases pp
       case true =>
        have hMS : Hid (mkP ⟨al,n,mr,ed⟩ ⟨bl,k,ms,es⟩ ch l (i + 1) = mkP ⟨al,n,mr,ed⟩ ⟨bl,k,ms,es⟩ ch l i ++ [(i : Int)]) := by rw [Hid,mkP_succ,if_pos HPP.out]
        have q2 := ckC S.out 0 rfl 2 rfl
        go_wp2_with (at_builtin; refine wpList_pushS rfl _ _ 32 rfl (S.out.alloc 3 [.int .i64 (i : Int)]) 2 rfl Tryd.underlying32 _ 8 intInfo rfl (by decide) rfl (i : Int) _ rfl rfl (one_cell _ _ [_] _ rfl) (encI_one _) hmq (by decide) ?_)
        intro A5 c5 w6 S9 _
        have S10 : Hid (Sep w.heap.size w (([eBlk nb 35 [.slice AL ul.length cL,.int .i64 ((raw.length : Nat) : Int),v2,v3],eInts (mkP ⟨al,n,mr,ed⟩ ⟨bl,k,ms,es⟩ ch l i) v2,eEds (rowsG ul (nxP ⟨al,n,mr,ed⟩ ⟨bl,k,ms,es⟩ l) i) v3,eInts ul (.slice AL ul.length cL),eWds fs raw l,eOwn PrV.cells 3 82 raw (.slice (some ⟨gR,oR,none⟩) raw.length cR),eBlk (w.heap.size + 2) 35 [.slice none 0 0,.int .i64 0,.slice none 0 0,.slice none 0 0],eBlk (w.heap.size + 1) 35 [.slice B1 bl.length d1,.int .i64 k,.slice B2 ms.length d2,.slice B3 es.length d3],eBlk w.heap.size 35 [.slice A1 al.length c1,.int .i64 n,.slice A2 mr.length c2,.slice A3 ed.length c3]]).set 1 (eInts (mkP ⟨al,n,mr,ed⟩ ⟨bl,k,ms,es⟩ ch l (i + 1)) (.slice A5 ((mkP ⟨al,n,mr,ed⟩ ⟨bl,k,ms,es⟩ ch l i).length + 1) c5))) w6) := by
         rw [hMS.out]
         exact S9.drop1
        have u2 := ckC S10.out 0 rfl 2 rfl
        have f2 := BlkAt.free (S10.out.get 0 rfl) 2
        have S11 := Lib.hid (S10.out.set 0 rfl 2 (.slice A5 ((mkP ⟨al,n,mr,ed⟩ ⟨bl,k,ms,es⟩ ch l i).length + 1) c5))
        clear S S9 S10 q2
        go_wp2_with fail
        go_meet
        exact ⟨_,S11.out⟩
       case false =>
        have S11 : Hid (Sep w.heap.size w (([eBlk nb 35 [.slice AL ul.length cL,.int .i64 ((raw.length : Nat) : Int),v2,v3],eInts (mkP ⟨al,n,mr,ed⟩ ⟨bl,k,ms,es⟩ ch l i) v2,eEds (rowsG ul (nxP ⟨al,n,mr,ed⟩ ⟨bl,k,ms,es⟩ l) i) v3,eInts ul (.slice AL ul.length cL),eWds fs raw l,eOwn PrV.cells 3 82 raw (.slice (some ⟨gR,oR,none⟩) raw.length cR),eBlk (w.heap.size + 2) 35 [.slice none 0 0,.int .i64 0,.slice none 0 0,.slice none 0 0],eBlk (w.heap.size + 1) 35 [.slice B1 bl.length d1,.int .i64 k,.slice B2 ms.length d2,.slice B3 es.length d3],eBlk w.heap.size 35 [.slice A1 al.length c1,.int .i64 n,.slice A2 mr.length c2,.slice A3 ed.length c3]]).set 1 (eInts (mkP ⟨al,n,mr,ed⟩ ⟨bl,k,ms,es⟩ ch l (i + 1)) v2)) wc) := by
         rw [mkP_succ,if_neg (by rw [HPP.out]; simp)]
         exact S.out
        clear S
        go_wp2_with fail
        go_meet
        exact ⟨v2,S11.out⟩
      case rest =>
       clear S hmq HPP HPC
       obtain ⟨v2,S⟩ := hcut
       have S0 : Hid (Sep w.heap.size w [eBlk nb 35 [.slice AL ul.length cL,.int .i64 ((raw.length : Nat) : Int),v2,v3],eInts (mkP ⟨al,n,mr,ed⟩ ⟨bl,k,ms,es⟩ ch l (i + 1)) v2,eEds (rowsG ul (nxP ⟨al,n,mr,ed⟩ ⟨bl,k,ms,es⟩ l) i ++ rowG (ul.take 0) i (nxP ⟨al,n,mr,ed⟩ ⟨bl,k,ms,es⟩ l i)) v3,eInts ul (.slice AL ul.length cL),eWds fs raw l,eOwn PrV.cells 3 82 raw (.slice (some ⟨gR,oR,none⟩) raw.length cR),eBlk (w.heap.size + 2) 35 [.slice none 0 0,.int .i64 0,.slice none 0 0,.slice none 0 0],eBlk (w.heap.size + 1) 35 [.slice B1 bl.length d1,.int .i64 k,.slice B2 ms.length d2,.slice B3 es.length d3],eBlk w.heap.size 35 [.slice A1 al.length c1,.int .i64 n,.slice A2 mr.length c2,.slice A3 ed.length c3]] wc) := by
        have e : rowG (ul.take 0) i (nxP ⟨al,n,mr,ed⟩ ⟨bl,k,ms,es⟩ l i) = [] := rfl
        rw [e,List.append_nil]
        exact S.out
       clear S
       go_wp2_with fail
       go_loopw [12,13,14] (fun v12 _ _ wr => ∃ (t : Nat) (v3' : Value),v12 = .int .i64 (t : Int) ∧ t ≤ ul.length ∧ Hid (Sep w.heap.size w [eBlk nb 35 [.slice AL ul.length cL,.int .i64 ((raw.length : Nat) : Int),v2,v3'],eInts (mkP ⟨al,n,mr,ed⟩ ⟨bl,k,ms,es⟩ ch l (i + 1)) v2,eEds (rowsG ul (nxP ⟨al,n,mr,ed⟩ ⟨bl,k,ms,es⟩ l) i ++ rowG (ul.take t) i (nxP ⟨al,n,mr,ed⟩ ⟨bl,k,ms,es⟩ l i)) v3',eInts ul (.slice AL ul.length cL),eWds fs raw l,eOwn PrV.cells 3 82 raw (.slice (some ⟨gR,oR,none⟩) raw.length cR),eBlk (w.heap.size + 2) 35 [.slice none 0 0,.int .i64 0,.slice none 0 0,.slice none 0 0],eBlk (w.heap.size + 1) 35 [.slice B1 bl.length d1,.int .i64 k,.slice B2 ms.length d2,.slice B3 es.length d3],eBlk w.heap.size 35 [.slice A1 al.length c1,.int .i64 n,.slice A2 mr.length c2,.slice A3 ed.length c3]] wr)) (fun v12 _ _ _ => ul.length - (intOf v12).toNat)
       case atStart => exact ⟨0,v3,rfl,Nat.zero_le _,S0.out⟩
       case round =>
        clear S0
        obtain ⟨t,v3,rfl,ht,S⟩ := hrel
        have o0 := ckC S.out 0 rfl 0 rfl
        by_cases htl : t < ul.length
        · obtain ⟨gL,oL,ev,rfl,_,hev,ce⟩ := IntsAt.at (S.out.ints 3 rfl) htl
          have HT : Hid (ul.take (t + 1) = ul.take t ++ [ev]) := by rw [Hid,List.take_add_one,hev]; rfl
          obtain ⟨tx,htx⟩ : ∃ t,toV (stepOf ed) p.x ev = t := ⟨_,rfl⟩
          obtain ⟨ty,hty⟩ : ∃ t,toV (stepOf es) p.y ev = t := ⟨_,rfl⟩
          obtain ⟨tz,htz⟩ : ∃ t,posK (prsOf l) (tx,ty) = t := ⟨_,rfl⟩
          have HTX := Lib.hid htx
          have HTY := Lib.hid hty
          have HTZ := Lib.hid htz
          have HNX : Hid (nxP ⟨al,n,mr,ed⟩ ⟨bl,k,ms,es⟩ l i ev = tz) := by
           unfold nxP
           rw [Hid,HGP.out,← htz,← htx,← hty]
           rfl
          have hcz := posK_cases (prsOf l) (tx,ty)
          rw [htz] at hcz
          clear htx hty htz hev
          go_upto_region 13 with fail
          refine wp_world (fun V => Sep w.heap.size w [eBlk nb 35 [.slice (some ⟨gL,oL,none⟩) ul.length cL,.int .i64 ((raw.length : Nat) : Int),v2,v3],eInts (mkP ⟨al,n,mr,ed⟩ ⟨bl,k,ms,es⟩ ch l (i + 1)) v2,eEds (rowsG ul (nxP ⟨al,n,mr,ed⟩ ⟨bl,k,ms,es⟩ l) i ++ rowG (ul.take t) i (nxP ⟨al,n,mr,ed⟩ ⟨bl,k,ms,es⟩ l i)) v3,eInts ul (.slice (some ⟨gL,oL,none⟩) ul.length cL),eWds fs raw l,eOwn PrV.cells 3 82 raw (.slice (some ⟨gR,oR,none⟩) raw.length cR),eBlk (w.heap.size + 2) 35 [.slice none 0 0,.int .i64 0,.slice none 0 0,.slice none 0 0],eBlk (w.heap.size + 1) 35 [.slice B1 bl.length d1,.int .i64 k,.slice B2 ms.length d2,.slice B3 es.length d3],eBlk w.heap.size 35 [.slice A1 al.length c1,.int .i64 n,.slice A2 mr.length c2,.slice A3 ed.length c3]] V) S.out fun W12 S' => ?_
          have S12 := Lib.hid S'
          clear S' S o0 ce
          go_cut [14] (fun x wx => x = .int .i64 tz ∧ Hid (Sep w.heap.size w [eBlk nb 35 [.slice (some ⟨gL,oL,none⟩) ul.length cL,.int .i64 ((raw.length : Nat) : Int),v2,v3],eInts (mkP ⟨al,n,mr,ed⟩ ⟨bl,k,ms,es⟩ ch l (i + 1)) v2,eEds (rowsG ul (nxP ⟨al,n,mr,ed⟩ ⟨bl,k,ms,es⟩ l) i ++ rowG (ul.take t) i (nxP ⟨al,n,mr,ed⟩ ⟨bl,k,ms,es⟩ l i)) v3,eInts ul (.slice (some ⟨gL,oL,none⟩) ul.length cL),eWds fs raw l,eOwn PrV.cells 3 82 raw (.slice (some ⟨gR,oR,none⟩) raw.length cR),eBlk (w.heap.size + 2) 35 [.slice none 0 0,.int .i64 0,.slice none 0 0,.slice none 0 0],eBlk (w.heap.size + 1) 35 [.slice B1 bl.length d1,.int .i64 k,.slice B2 ms.length d2,.slice B3 es.length d3],eBlk w.heap.size 35 [.slice A1 al.length c1,.int .i64 n,.slice A2 mr.length c2,.slice A3 ed.length c3]] wx))
          case first =>
           have S4 := Lib.hid S12.out.drew
           refine wp_region_held_drew (S := (fun V => Sep w.heap.size w [eOwn PrV.cells 3 82 raw (.slice (some ⟨gR,oR,none⟩) raw.length cR),eBlk (w.heap.size + 1) 35 [.slice B1 bl.length d1,.int .i64 k,.slice B2 ms.length d2,.slice B3 es.length d3],eBlk w.heap.size 35 [.slice A1 al.length c1,.int .i64 n,.slice A2 mr.length c2,.slice A3 ed.length c3]] V)) (by kernel_rfl) ?_ (fun hHeld => ?_)
           · exact S4.out.pick [5,7,8] (by decide)
           generalize hwz : W12.drew = w4 at *
           clear hwz
           refine tkP 0 rfl (v := ?_) hHeld ?_
           try simp only [sx]
           refine tkH 1 rfl (v := ?_) (by kernel_rfl) ?_ hHeld ?_
           rotate_left
           · intro V hSw
             have a0 := ckC hSw 2 rfl 0 rfl
             have a1 := ckC hSw 2 rfl 1 rfl
             have a2 := ckC hSw 2 rfl 2 rfl
             have a3 := ckC hSw 2 rfl 3 rfl
             clear hSw
             first | (go_simp; done) | (go_simp; with_reducible rfl)
           try simp only [sx]
           refine tkP 2 rfl (v := ?_) hHeld ?_
           try simp only [sx]
           refine tkP 3 rfl (v := ?_) hHeld ?_
           try simp only [sx]
           refine tkP 4 rfl (v := ?_) hHeld ?_
           try simp only [sx]
           refine tkP 5 rfl (v := ?_) hHeld ?_
           try simp only [sx]
           refine tkH 6 rfl (v := ?_) (by kernel_rfl) ?_ hHeld ?_
           rotate_left
           · intro V hSw
             have b0 := (Sep.prAt (show Sep w.heap.size w _ V from hSw) 0 rfl hr).1
             clear hSw
             first | (go_simp; done) | (go_simp; with_reducible rfl)
           try simp only [sx]
           refine tkP 7 rfl (v := ?_) hHeld ?_
           try simp only [sx]
           refine tkH 9 rfl (v := ?_) (by kernel_rfl) ?_ hHeld ?_
           rotate_left
           · intro V hSw
             have b0 := ckC hSw 1 rfl 0 rfl
             have b1 := ckC hSw 1 rfl 1 rfl
             have b2 := ckC hSw 1 rfl 2 rfl
             have b3 := ckC hSw 1 rfl 3 rfl
             clear hSw
             first | (go_simp; done) | (go_simp; with_reducible rfl)
           try simp only [sx]
           refine tkP 10 rfl (v := ?_) hHeld ?_
           try simp only [sx]
           refine tkP 11 rfl (v := ?_) hHeld ?_
           try simp only [sx]
           refine tkP 12 rfl (v := ?_) hHeld ?_
           try simp only [sx]
           refine tkP 13 rfl (v := ?_) hHeld ?_
           try simp only [sx]
           refine tkH 14 rfl (v := ?_) (by kernel_rfl) ?_ hHeld ?_
           rotate_left
           · intro V hSw
             have b1 := (Sep.prAt (show Sep w.heap.size w _ V from hSw) 0 rfl hr).2.1
             clear hSw
             first | (go_simp; done) | (go_simp; with_reducible rfl)
           try simp only [sx]
           refine tkP 15 rfl (v := ?_) hHeld ?_
           try simp only [sx]
           refine rdH 8 rfl fun K hK => ?_
           go_simp
           refine (step9_e ⟨al,n,mr,ed⟩ ⟨A1,c1,A2,c2,A3,c3⟩ p.x ev tx w4 HRA.out (HA.out.below S4.out.below).ed HA.out.led HTX.out).mono ?_
           rintro e w5 ⟨rfl,hb⟩
           have S5 := Lib.hid (S4.out.next hb)
           clear hb
           refine hK.out _ _ ?_ (fun hHeld => ?_)
           · exact S5.out.pick [5,7,8] (by decide)
           clear hK K
           try simp only [sx]
           refine rdH 16 rfl fun K hK => ?_
           go_simp
           refine (step9_e ⟨bl,k,ms,es⟩ ⟨B1,d1,B2,d2,B3,d3⟩ p.y ev ty w5 HRB.out (HB.out.below S5.out.below).ed HB.out.led HTY.out).mono ?_
           rintro e w6 ⟨rfl,hb⟩
           have S6 := Lib.hid (S5.out.next hb)
           clear hb
           refine hK.out _ _ ?_ (fun hHeld => ?_)
           · exact S6.out.pick [5,7,8] (by decide)
           clear hK K
           try simp only [sx]
           refine rdH 17 rfl fun K hK => ?_
           go_simp
           refine (find9_e (some ⟨gR,oR,none⟩) cR raw l tx ty tz w6 S6.out 4 5 rfl rfl HND.out HLW.out hlen HTZ.out).mono ?_
           rintro e' w7 ⟨rfl,he⟩
           have S7 : Hid (Sep w.heap.size w [eBlk nb 35 [.slice (some ⟨gL,oL,none⟩) ul.length cL,.int .i64 ((raw.length : Nat) : Int),v2,v3],eInts (mkP ⟨al,n,mr,ed⟩ ⟨bl,k,ms,es⟩ ch l (i + 1)) v2,eEds (rowsG ul (nxP ⟨al,n,mr,ed⟩ ⟨bl,k,ms,es⟩ l) i ++ rowG (ul.take t) i (nxP ⟨al,n,mr,ed⟩ ⟨bl,k,ms,es⟩ l i)) v3,eInts ul (.slice (some ⟨gL,oL,none⟩) ul.length cL),eWds fs raw l,eOwn PrV.cells 3 82 raw (.slice (some ⟨gR,oR,none⟩) raw.length cR),eBlk (w.heap.size + 2) 35 [.slice none 0 0,.int .i64 0,.slice none 0 0,.slice none 0 0],eBlk (w.heap.size + 1) 35 [.slice B1 bl.length d1,.int .i64 k,.slice B2 ms.length d2,.slice B3 es.length d3],eBlk w.heap.size 35 [.slice A1 al.length c1,.int .i64 n,.slice A2 mr.length c2,.slice A3 ed.length c3]] w7) := he ▸ S6.out
           clear he
           refine hK.out _ _ ?_ (fun hHeld => ?_)
           · exact S7.out.pick [5,7,8] (by decide)
           clear hK K
           try simp only [sx]
           refine tkP 18 rfl (v := ?_) hHeld ?_
           try simp only [sx]
           refine wpAnyH_done (by kernel_rfl) ?_ _
           go_wp2_with fail
           go_meet
           exact ⟨rfl,S7.out⟩
          case rest =>
           clear S12
           obtain ⟨rfl,S⟩ := hcut
           by_cases hz0 : 0 ≤ tz
           · have hq : decide (tz ≥ 0) = true := by simpa using hz0
             have HROW0 : Hid (rowG (ul.take (t + 1)) i (nxP ⟨al,n,mr,ed⟩ ⟨bl,k,ms,es⟩ l i) = rowG (ul.take t) i (nxP ⟨al,n,mr,ed⟩ ⟨bl,k,ms,es⟩ l i) ++ [⟨(i : Int),ev,tz⟩]) := by
              rw [Hid,HT.out,rowG_yes _ _ _ _ (by rw [HNX.out]; exact hz0),HNX.out]
             obtain ⟨EL,hEL⟩ : ∃ EL,rowsG ul (nxP ⟨al,n,mr,ed⟩ ⟨bl,k,ms,es⟩ l) i ++ rowG (ul.take t) i (nxP ⟨al,n,mr,ed⟩ ⟨bl,k,ms,es⟩ l i) = EL := ⟨_,rfl⟩
             have hel2 : EL.length ≤ 1048576 := by
              rw [← hEL,List.length_append]
              have h1 := rowsG_len ul (nxP ⟨al,n,mr,ed⟩ ⟨bl,k,ms,es⟩ l) i
              have h2 := rowG_len (ul.take t) i (nxP ⟨al,n,mr,ed⟩ ⟨bl,k,ms,es⟩ l i)
              have h3 : i * ul.length ≤ 4096 * 32 := Nat.mul_le_mul (by omega) hul
              have h4 : (ul.take t).length ≤ 32 := by rw [List.length_take]; omega
              omega
             rw [hEL] at S
             have HROW : Hid (rowsG ul (nxP ⟨al,n,mr,ed⟩ ⟨bl,k,ms,es⟩ l) i ++ rowG (ul.take (t + 1)) i (nxP ⟨al,n,mr,ed⟩ ⟨bl,k,ms,es⟩ l i) = EL ++ [⟨(i : Int),ev,tz⟩]) := by rw [Hid,HROW0.out,← List.append_assoc,hEL]
             have q3 := ckC S.out 0 rfl 3 rfl
             clear HROW0 hEL
             go_wp2_with (at_builtin; refine wpList_pushS rfl _ _ 33 rfl (S.out.alloc 87 [.int .i64 (i : Int),.int .i64 ev,.int .i64 tz]) 3 rfl Tryd.underlying33 _ 24 edInfo rfl (by decide) rfl ⟨(i : Int),ev,tz⟩ _ rfl rfl (fun j u hj => (BlkAt.cell ((S.out.alloc 87 [.int .i64 (i : Int),.int .i64 ev,.int .i64 tz]).get 0 rfl) j).trans hj) (edOne _) hel2 (by decide) ?_)
             intro A5 c5 w6 S9 _
             have S10 := Lib.hid S9.drop1
             have u3 := ckC S10.out 0 rfl 3 rfl
             have f3 := BlkAt.free (S10.out.get 0 rfl) 3
             have S11 := Lib.hid (S10.out.set 0 rfl 3 (.slice A5 (EL.length + 1) c5))
             clear S S9 S10 q3
             go_wp2_with fail
             go_roundw
             case rel => exact ⟨t + 1,.slice A5 (EL.length + 1) c5,by go_num,by omega,by rw [HROW.out]; exact S11.out⟩
             case measure => simp [intOf]; omega
           · have hq : decide (tz ≥ 0) = false := by simpa using hz0
             have HROW : Hid (rowG (ul.take (t + 1)) i (nxP ⟨al,n,mr,ed⟩ ⟨bl,k,ms,es⟩ l i) = rowG (ul.take t) i (nxP ⟨al,n,mr,ed⟩ ⟨bl,k,ms,es⟩ l i)) := by
              rw [Hid,HT.out,rowG_no _ _ _ _ (by rw [HNX.out]; exact hz0)]
             go_wp2_with fail
             go_roundw
             case rel => exact ⟨t + 1,v3,by go_num,by omega,by rw [HROW.out]; exact S.out⟩
             case measure => simp [intOf]; omega
        · obtain rfl : t = ul.length := by omega
          have S3 : Hid (Sep w.heap.size w [eBlk nb 35 [.slice AL ul.length cL,.int .i64 ((raw.length : Nat) : Int),v2,v3],eInts (mkP ⟨al,n,mr,ed⟩ ⟨bl,k,ms,es⟩ ch l (i + 1)) v2,eEds (rowsG ul (nxP ⟨al,n,mr,ed⟩ ⟨bl,k,ms,es⟩ l) (i + 1)) v3,eInts ul (.slice AL ul.length cL),eWds fs raw l,eOwn PrV.cells 3 82 raw (.slice (some ⟨gR,oR,none⟩) raw.length cR),eBlk (w.heap.size + 2) 35 [.slice none 0 0,.int .i64 0,.slice none 0 0,.slice none 0 0],eBlk (w.heap.size + 1) 35 [.slice B1 bl.length d1,.int .i64 k,.slice B2 ms.length d2,.slice B3 es.length d3],eBlk w.heap.size 35 [.slice A1 al.length c1,.int .i64 n,.slice A2 mr.length c2,.slice A3 ed.length c3]] wr) := by
           have h := S.out
           rw [List.take_length,← rowsG_succ] at h
           exact h
          clear S
          go_wp2_with fail
          go_roundw
          case rel => exact ⟨i + 1,v2,v3,by go_num,by omega,S3.out⟩
          case measure => simp [intOf]; omega
  · obtain rfl : i = raw.length := by omega
    obtain ⟨AM,cM,rfl⟩ := S.out.form 1 rfl
    obtain ⟨AE,cE,rfl⟩ := S.out.form 2 rfl
    have QA : Hid (Au.At wr (combV ⟨al,n,mr,ed⟩ ⟨bl,k,ms,es⟩ ch l) ⟨AL,cL,AM,cM,AE,cE⟩) := by
     have h := S.out
     rw [hrl.out] at h
     have hu := HUE.out
     subst hu
     have h1 := mkP_len ⟨al,n,mr,ed⟩ ⟨bl,k,ms,es⟩ ch l l.length
     have h2 := rowsG_len (unionV al bl) (nxP ⟨al,n,mr,ed⟩ ⟨bl,k,ms,es⟩ l) l.length
     have h3 := hrl.out
     have h4 : l.length * (unionV al bl).length ≤ 4096 * 32 := Nat.mul_le_mul (by omega) hul
     exact ⟨h.ints 3 rfl,h.ints 1 rfl,h.eds 2 rfl,Nat.le_trans hul (by decide),Nat.le_trans h1 (by omega),Nat.le_trans h2 (Nat.le_trans h4 (by decide))⟩
    have b0 := ckC S.out 0 rfl 0 rfl
    have b1 := ckC S.out 0 rfl 1 rfl
    have b2 := ckC S.out 0 rfl 2 rfl
    have b3 := ckC S.out 0 rfl 3 rfl
    have CAN : Hid (Calls Tryd.prog 26 #[.agg #[.slice AL ul.length cL,.int .i64 ((raw.length : Nat) : Int),.slice AM (mkP ⟨al,n,mr,ed⟩ ⟨bl,k,ms,es⟩ ch l raw.length).length cM,.slice AE (rowsG ul (nxP ⟨al,n,mr,ed⟩ ⟨bl,k,ms,es⟩ l) raw.length).length cE]] wr (GivesMn (unionV al bl) (fun u => rn (combV ⟨al,n,mr,ed⟩ ⟨bl,k,ms,es⟩ ch l) u ∈ (combV ⟨al,n,mr,ed⟩ ⟨bl,k,ms,es⟩ ch l).mr) wr)) := by
     have h := minimal9_c (combV ⟨al,n,mr,ed⟩ ⟨bl,k,ms,es⟩ ch l) ⟨AL,cL,AM,cM,AE,cE⟩ wr RT.out QA.out HALN.out
     rw [hrl.out,← HUE.out]
     exact h
    clear QA
    go_wp2_with fail
    refine CAN.out.mono ?_
    rintro e w5 ⟨mc,p5,rfl,T,HLN,MN0,hal5⟩
    have HAL5 := Lib.hid hal5
    have MN : Hid (IsMin mc (CoL ⟨al,n,mr,ed⟩ ⟨bl,k,ms,es⟩ ch)) := MN0.out.congr LG.out
    have S5 : Hid (Sep w.heap.size w (eAu mc p5 ++ [eBlk (w.heap.size + 2) 35 [.slice none 0 0,.int .i64 0,.slice none 0 0,.slice none 0 0]]) w5) := (S.out.pick [6] (by decide)).news T.out
    clear T S CAN MN0 hal5 b0 b1 b2 b3
    dsimp only [Au.val]
    have SZ : Hid (Sep w.heap.size w [eInts mc.al (.slice p5.A1 mc.al.length p5.c1),eInts mc.mr (.slice p5.A2 mc.mr.length p5.c2),eEds mc.ed (.slice p5.A3 mc.ed.length p5.c3),eBlk (w.heap.size + 2) 35 [.slice p5.A1 mc.al.length p5.c1,.int .i64 mc.n,.slice p5.A2 mc.mr.length p5.c2,.slice p5.A3 mc.ed.length p5.c3]] _) := ((((S5.out.set 3 rfl 0 (.slice p5.A1 mc.al.length p5.c1)).set 3 rfl 1 (.int .i64 mc.n)).set 3 rfl 2 (.slice p5.A2 mc.mr.length p5.c2)).set 3 rfl 3 (.slice p5.A3 mc.ed.length p5.c3))
    have r0 := ckC S5.out 3 rfl 0 rfl
    have r1 := ckC S5.out 3 rfl 1 rfl
    have r2 := ckC S5.out 3 rfl 2 rfl
    have r3 := ckC S5.out 3 rfl 3 rfl
    have f0 := BlkAt.free (S5.out.get 3 rfl) 0
    have f1 := BlkAt.free (S5.out.get 3 rfl) 1
    have f2 := BlkAt.free (S5.out.get 3 rfl) 2
    have f3 := BlkAt.free (S5.out.get 3 rfl) 3
    have t0 := ckC SZ.out 3 rfl 0 rfl
    have t1 := ckC SZ.out 3 rfl 1 rfl
    have t2 := ckC SZ.out 3 rfl 2 rfl
    have t3 := ckC SZ.out 3 rfl 3 rfl
    have SY : Hid (Sep w.heap.size w (eAu mc p5) _) := SZ.out.pick [0,1,2] (by decide)
    go_wp2_with fail
    refine bodyPost_ret (v := .agg #[.slice p5.A1 mc.al.length p5.c1,.int .i64 mc.n,.slice p5.A2 mc.mr.length p5.c2,.slice p5.A3 mc.ed.length p5.c3]) (by simp [results,Tryd.results20,go_sem, *]) rfl ?_
    exact ⟨mc,p5,rfl,SY.out,HLN.out,MN.out,HAL5.out⟩
set_option maxHeartbeats 1000000 in
theorem sameI3_c (A1 A2 : Option Addr) (c1 c2 : Nat) (l : List Int) (w : World) (h1 : IntsAt w A1 l) (h2 : IntsAt w A2 l) (n1 : l.length ≤ 140737488355328) :
 Calls Tryd.prog 53 #[.slice A1 l.length c1,.slice A2 l.length c2] w (Ret (.bool true) w) := by
 have H1 := Lib.hid h1
 have H2 := Lib.hid h2
 clear h1 h2
 go_enter Tryd.func53,Tryd.ntmps53
 go_wp2
 go_loopw [5] (fun i wr => ∃ k : Nat,k ≤ l.length ∧ i = .int .i64 k ∧ Hid (Below w.heap.size w wr)) (fun i _ => l.length - (intOf i).toNat)
 case atStart => exact ⟨0,by omega,rfl,Below.refl _ _⟩
 case round =>
  obtain ⟨k,hk,rfl,BW⟩ := hrel
  by_cases hlt : k < l.length
  · obtain ⟨b,off,x,rfl,hb,hx,e0⟩ := IntsAt.at (H1.out.below IntE.stays BW.out) hlt
    obtain ⟨b2,off2,y,rfl,hb2,hy,g0⟩ := IntsAt.at (H2.out.below IntE.stays BW.out) hlt
    obtain rfl : x = y := Option.some.inj (hx.symm.trans hy)
    clear hx hy
    go_wp2_with fail
    go_quiet (fail)
    go_wp2
    go_roundw
    case rel => exact ⟨k + 1,by omega,by go_num,BW.out.draws _⟩
    case measure => simp [intOf]; omega
  · obtain rfl : k = l.length := by omega
    go_wp2
    go_ret
    exact ⟨rfl,BW.out⟩
set_option maxHeartbeats 4000000 in
theorem same3_c (a : Au) (p q : AuP) (w : World) (hA : Au.At w a p) (hB : Au.At w a q) :
 Calls Tryd.prog 25 #[a.val p,a.val q] w (Ret (.bool true) w) := by
 have HA := Lib.hid hA
 have HB := Lib.hid hB
 obtain ⟨al,n,mr,ed⟩ := a
 obtain ⟨A1,c1,A2,c2,A3,c3⟩ := p
 obtain ⟨B1,d1,B2,d2,B3,d3⟩ := q
 try dsimp only [Au.val] at *
 have hal := hA.lal
 have hml := hA.lmk
 have hel := hA.led
 dsimp only at hal hml hel
 clear hA hB
 have q0 : Hid (BlkAt ((w.alloc (.cells #[.slice A1 al.length c1,.int .i64 n,.slice A2 mr.length c2,.slice A3 ed.length c3] 35)).alloc (.cells #[.slice B1 al.length d1,.int .i64 n,.slice B2 mr.length d2,.slice B3 ed.length d3] 35)) w.heap.size 35 [.slice A1 al.length c1,.int .i64 n,.slice A2 mr.length c2,.slice A3 ed.length c3]) := (BlkAt.new w _ [_,_,_,_]).alloc _
 have q1 : Hid (BlkAt ((w.alloc (.cells #[.slice A1 al.length c1,.int .i64 n,.slice A2 mr.length c2,.slice A3 ed.length c3] 35)).alloc (.cells #[.slice B1 al.length d1,.int .i64 n,.slice B2 mr.length d2,.slice B3 ed.length d3] 35)) (w.heap.size + 1) 35 [.slice B1 al.length d1,.int .i64 n,.slice B2 mr.length d2,.slice B3 ed.length d3]) := by
  have := BlkAt.new (w.alloc (.cells #[.slice A1 al.length c1,.int .i64 n,.slice A2 mr.length c2,.slice A3 ed.length c3] 35)) 35 [.slice B1 al.length d1,.int .i64 n,.slice B2 mr.length d2,.slice B3 ed.length d3]
  simpa [Hid] using this
 have B0 : Hid (Fro w.heap.size w ((w.alloc (.cells #[.slice A1 al.length c1,.int .i64 n,.slice A2 mr.length c2,.slice A3 ed.length c3] 35)).alloc (.cells #[.slice B1 al.length d1,.int .i64 n,.slice B2 mr.length d2,.slice B3 ed.length d3] 35))) := ((Fro.here w).alloc _).alloc _
 go_enter Tryd.func25,Tryd.ntmps25
 go_upto_region 1 with fail
 generalize hW : ((w.alloc (.cells #[.slice A1 al.length c1,.int .i64 n,.slice A2 mr.length c2,.slice A3 ed.length c3] 35)).alloc (.cells #[.slice B1 al.length d1,.int .i64 n,.slice B2 mr.length d2,.slice B3 ed.length d3] 35)) = W at *
 clear hW
 have a0 := q0.out.cell 0
 have a1 := q0.out.cell 1
 have a2 := q0.out.cell 2
 have a3 := q0.out.cell 3
 have b0 := q1.out.cell 0
 have b1 := q1.out.cell 1
 have b2 := q1.out.cell 2
 have b3 := q1.out.cell 3
 simp only [List.getElem?_cons_succ,List.getElem?_cons_zero] at a0 a1 a2 a3 b0 b1 b2 b3
 have hnn : (n != n) = false := by simp
 have hne : (n == n) = true := by simp
 have hee : ((ed.length : Int) != (ed.length : Int)) = false := by simp
 go_wp2_with fail
 refine (sameI3_c A1 B1 c1 d1 al W (HA.out.below B0.out.b).al (HB.out.below B0.out.b).al hal).mono ?_
 rintro e W1 ⟨rfl,hb⟩
 have Q0 := Lib.hid (q0.out.below hb q0.out.lt)
 have Q1 := Lib.hid (q1.out.below hb q1.out.lt)
 have B1' := Lib.hid (B0.out.next hb)
 clear q0 q1 B0 hb a0 a1 a2 a3 b0 b1 b2 b3
 have a1 := Q0.out.cell 1
 have a2 := Q0.out.cell 2
 have a3 := Q0.out.cell 3
 have b1 := Q1.out.cell 1
 have b2 := Q1.out.cell 2
 have b3 := Q1.out.cell 3
 simp only [List.getElem?_cons_succ,List.getElem?_cons_zero] at a1 a2 a3 b1 b2 b3
 go_wp2_with fail
 refine (sameI3_c A2 B2 c2 d2 mr W1 (HA.out.below B1'.out.b).mr (HB.out.below B1'.out.b).mr hml).mono ?_
 rintro e W2 ⟨rfl,hb⟩
 have R0 := Lib.hid (Q0.out.below hb Q0.out.lt)
 have R1 := Lib.hid (Q1.out.below hb Q1.out.lt)
 have B2' := Lib.hid (B1'.out.next hb)
 clear Q0 Q1 B1' hb a1 a2 a3 b1 b2 b3
 have a3 := R0.out.cell 3
 have b3 := R1.out.cell 3
 simp only [List.getElem?_cons_succ,List.getElem?_cons_zero] at a3 b3
 go_wp2_with fail
 go_loopw [5] (fun i wr => ∃ k : Nat,k ≤ ed.length ∧ i = .int .i64 k ∧ Hid (Below W2.heap.size W2 wr)) (fun i _ => ed.length - (intOf i).toNat)
 case atStart => exact ⟨0,by omega,rfl,Below.refl _ _⟩
 case round =>
  obtain ⟨k,hk,rfl,BW⟩ := hrel
  have S0 := Lib.hid (R0.out.below BW.out R0.out.lt)
  have S1 := Lib.hid (R1.out.below BW.out R1.out.lt)
  clear a3 b3
  have a3 := S0.out.cell 3
  have b3 := S1.out.cell 3
  simp only [List.getElem?_cons_succ,List.getElem?_cons_zero] at a3 b3
  have BF := Lib.hid (B2'.out.next BW.out)
  by_cases hlt : k < ed.length
  · obtain ⟨b,off,x,rfl,hb,hx,e0,e1,e2⟩ := EdsAt.at (HA.out.below BF.out.b).ed hlt
    obtain ⟨b2,off2,y,rfl,hb2,hy,g0,g1,g2⟩ := EdsAt.at (HB.out.below BF.out.b).ed hlt
    obtain rfl : x = y := Option.some.inj (hx.symm.trans hy)
    clear hx hy
    obtain ⟨x1,x2,x3⟩ := x
    dsimp only at e0 e1 e2 g0 g1 g2
    go_wp2_with fail
    go_quiet (fail)
    go_wp2
    go_roundw
    case rel => exact ⟨k + 1,by omega,by go_num,BW.out.draws _⟩
    case measure => simp [intOf]; omega
  · obtain rfl : k = ed.length := by omega
    go_wp2
    go_ret
    exact ⟨rfl,BF.out.b⟩
def gvV (g : Gr) (i k : Nat) : Int := match g.cells[2 + i * 5 + k]? with
 | some (.int _ x) => x
 | _ => 0
def nsG (g : Gr) : Nat := (1 + g.s % 5).toNat
theorem nsG_eq (g : Gr) : (nsG g : Int) = max (1 + g.s % 5) 0 := by unfold nsG; omega
def msF (g : Gr) : Nat → List Int
 | 0 => []
 | i + 1 => if bitS g.m i then msF g i ++ [(i : Int)] else msF g i
theorem msF_yes {g : Gr} {i : Nat} (h : bitS g.m i = true) : msF g (i + 1) = msF g i ++ [(i : Int)] := by rw [msF,if_pos h]
theorem msF_no {g : Gr} {i : Nat} (h : bitS g.m i = false) : msF g (i + 1) = msF g i := by rw [msF,if_neg (by simp [h])]
def rowF (g : Gr) (al : List Int) (N i : Nat) : Nat → List Ed
 | 0 => []
 | k + 1 => if gvV g i k % ((N : Int) + 2) < (N : Int) then rowF g al N i k ++ [⟨(i : Int),al.getD k 0,gvV g i k % ((N : Int) + 2)⟩] else rowF g al N i k
theorem rowF_yes {g : Gr} {al : List Int} {N i k : Nat} (h : gvV g i k % ((N : Int) + 2) < (N : Int)) : rowF g al N i (k + 1) = rowF g al N i k ++ [⟨(i : Int),al.getD k 0,gvV g i k % ((N : Int) + 2)⟩] := by rw [rowF,if_pos h]
theorem rowF_no {g : Gr} {al : List Int} {N i k : Nat} (h : ¬ gvV g i k % ((N : Int) + 2) < (N : Int)) : rowF g al N i (k + 1) = rowF g al N i k := by rw [rowF,if_neg h]
def esF (g : Gr) (al : List Int) (N : Nat) : Nat → List Ed
 | 0 => []
 | i + 1 => esF g al N i ++ rowF g al N i al.length
def makeV (al : List Int) (g : Gr) : Au := if 250 ≤ g.s then ⟨al,0,[],[]⟩ else canonV ⟨al,(nsG g : Int),msF g (nsG g),esF g al (nsG g) (nsG g)⟩
def GivesG3w (al : List Int) (g : Gr) (w : World) (e : Ending) (w' : World) : Prop := ∃ (au : Au) (p : AuP),makeV al g = au ∧ e = .returned (au.val p) ∧ au.Right ∧ au.al = al ∧ au.n ≤ 5 ∧ au.ed.length ≤ 25 ∧ au.mr.length ≤ 5 ∧ Hid (AuOwn w.heap.size au p w') ∧ Below w.heap.size w w'
set_option maxRecDepth 100000 in
set_option maxHeartbeats 4000000 in
theorem make3w_c (A : Option Addr) (c : Nat) (al : List Int) (g : Gr) (w : World) (hA : IntsAt w A al) (h5 : Lt5 al 5) (hn : A = none → al = [] ∧ c = 0) (hg : g.Ok) :
 Calls Tryd.prog 23 #[.slice A al.length c,g.val] w (GivesG3w al g w) := by
 have W0 : Hid (Fro w.heap.size w ((w.alloc (.cells g.cells.toArray 27)).alloc (.cells #[.slice none 0 0,.int .i64 0,.slice none 0 0,.slice none 0 0] 35))) := ((Fro.here w).alloc _).alloc _
 have C0 : Hid (HasAt w.heap.size g.cells ((w.alloc (.cells g.cells.toArray 27)).alloc (.cells #[.slice none 0 0,.int .i64 0,.slice none 0 0,.slice none 0 0] 35))) := (HasAt.new w _ _ rfl).alloc _
 have HA := Lib.hid hA
 have H5 := Lib.hid h5
 have HN := Lib.hid hn
 have HG := Lib.hid hg
 have hal := h5.len
 have HBG : Hid (250 ≤ g.s → makeV al g = ⟨al,0,[],[]⟩) := fun h => if_pos h
 have HSM : Hid (¬ 250 ≤ g.s → makeV al g = canonV ⟨al,(nsG g : Int),msF g (nsG g),esF g al (nsG g) (nsG g)⟩) := fun h => if_neg h
 obtain ⟨MV,hMV⟩ : ∃ M,makeV al g = M := ⟨_,rfl⟩
 rw [hMV] at HBG HSM
 have HMV := Lib.hid hMV
 clear hMV
 have hs := hg.s
 have hm := hg.m
 have q0 := C0.out.c 0 _ rfl
 have q1 := C0.out.c 1 _ rfl
 clear hA h5 hn hg
 dsimp only [Gr.val,Gr.cells] at *
 go_enter Tryd.func23,Tryd.ntmps23
 have R0 : Hid (BlkAt ((w.alloc (.cells #[.int .u8 g.s,.int .u8 g.m,.int .u8 g.r0.x0,.int .u8 g.r0.x1,.int .u8 g.r0.x2,.int .u8 g.r0.x3,.int .u8 g.r0.x4,.int .u8 g.r1.x0,.int .u8 g.r1.x1,.int .u8 g.r1.x2,.int .u8 g.r1.x3,.int .u8 g.r1.x4,.int .u8 g.r2.x0,.int .u8 g.r2.x1,.int .u8 g.r2.x2,.int .u8 g.r2.x3,.int .u8 g.r2.x4,.int .u8 g.r3.x0,.int .u8 g.r3.x1,.int .u8 g.r3.x2,.int .u8 g.r3.x3,.int .u8 g.r3.x4,.int .u8 g.r4.x0,.int .u8 g.r4.x1,.int .u8 g.r4.x2,.int .u8 g.r4.x3,.int .u8 g.r4.x4] 27)).alloc (.cells #[.slice none 0 0,.int .i64 0,.slice none 0 0,.slice none 0 0] 35)) (w.heap.size + 1) 35 [.slice none 0 0,.int .i64 0,.slice none 0 0,.slice none 0 0]) := by
  have := BlkAt.new (w.alloc (.cells #[.int .u8 g.s,.int .u8 g.m,.int .u8 g.r0.x0,.int .u8 g.r0.x1,.int .u8 g.r0.x2,.int .u8 g.r0.x3,.int .u8 g.r0.x4,.int .u8 g.r1.x0,.int .u8 g.r1.x1,.int .u8 g.r1.x2,.int .u8 g.r1.x3,.int .u8 g.r1.x4,.int .u8 g.r2.x0,.int .u8 g.r2.x1,.int .u8 g.r2.x2,.int .u8 g.r2.x3,.int .u8 g.r2.x4,.int .u8 g.r3.x0,.int .u8 g.r3.x1,.int .u8 g.r3.x2,.int .u8 g.r3.x3,.int .u8 g.r3.x4,.int .u8 g.r4.x0,.int .u8 g.r4.x1,.int .u8 g.r4.x2,.int .u8 g.r4.x3,.int .u8 g.r4.x4] 27)) 35 [.slice none 0 0,.int .i64 0,.slice none 0 0,.slice none 0 0]
  simpa [Hid] using this
 have HZ0 : Hid (w.heap.size + 2 ≤ ((w.alloc (.cells #[.int .u8 g.s,.int .u8 g.m,.int .u8 g.r0.x0,.int .u8 g.r0.x1,.int .u8 g.r0.x2,.int .u8 g.r0.x3,.int .u8 g.r0.x4,.int .u8 g.r1.x0,.int .u8 g.r1.x1,.int .u8 g.r1.x2,.int .u8 g.r1.x3,.int .u8 g.r1.x4,.int .u8 g.r2.x0,.int .u8 g.r2.x1,.int .u8 g.r2.x2,.int .u8 g.r2.x3,.int .u8 g.r2.x4,.int .u8 g.r3.x0,.int .u8 g.r3.x1,.int .u8 g.r3.x2,.int .u8 g.r3.x3,.int .u8 g.r3.x4,.int .u8 g.r4.x0,.int .u8 g.r4.x1,.int .u8 g.r4.x2,.int .u8 g.r4.x3,.int .u8 g.r4.x4] 27)).alloc (.cells #[.slice none 0 0,.int .i64 0,.slice none 0 0,.slice none 0 0] 35)).heap.size) := by unfold Hid; simp
 by_cases hbig : 250 ≤ g.s
 · have HBE := Lib.hid (HBG.out hbig)
   clear HBG HSM
   go_wp2_with fail
   generalize hW : (w.alloc (.cells #[.int .u8 g.s,.int .u8 g.m,.int .u8 g.r0.x0,.int .u8 g.r0.x1,.int .u8 g.r0.x2,.int .u8 g.r0.x3,.int .u8 g.r0.x4,.int .u8 g.r1.x0,.int .u8 g.r1.x1,.int .u8 g.r1.x2,.int .u8 g.r1.x3,.int .u8 g.r1.x4,.int .u8 g.r2.x0,.int .u8 g.r2.x1,.int .u8 g.r2.x2,.int .u8 g.r2.x3,.int .u8 g.r2.x4,.int .u8 g.r3.x0,.int .u8 g.r3.x1,.int .u8 g.r3.x2,.int .u8 g.r3.x3,.int .u8 g.r3.x4,.int .u8 g.r4.x0,.int .u8 g.r4.x1,.int .u8 g.r4.x2,.int .u8 g.r4.x3,.int .u8 g.r4.x4] 27)).alloc (.cells #[.slice none 0 0,.int .i64 0,.slice none 0 0,.slice none 0 0] 35) = W at *
   clear hW
   refine (Empty_c A c al W (HA.out.below IntE.stays W0.out.b) (by omega) HN.out).mono ?_
   rintro e w2 ⟨AE,cE,rfl,HE,hb⟩
   have W2 := Lib.hid (W0.out.next hb)
   have R2 : Hid (BlkAt w2 (w.heap.size + 1) 35 [.slice none 0 0,.int .i64 0,.slice none 0 0,.slice none 0 0]) := R0.out.below hb R0.out.lt
   clear hb q0 q1 R0 C0
   have r0 := R2.out.cell 0
   have r1 := R2.out.cell 1
   have r2 := R2.out.cell 2
   have r3 := R2.out.cell 3
   have g0 := R2.out.free 0
   have g1 := R2.out.free 1
   have g2 := R2.out.free 2
   have g3 := R2.out.free 3
   go_wp2
   refine bodyPost_ret (v := .agg #[.slice AE al.length cE,.int .i64 0,.slice none 0 0,.slice none 0 0]) (by simp [results,Tryd.results23,go_sem, *]) rfl ?_
   refine ⟨⟨al,0,[],[]⟩,⟨AE,cE,none,0,none,0⟩,HMV.out.trans HBE.out,rfl,⟨H5.out.inc.setOk fun x hx => ⟨(H5.out.rg x hx).1,by have := (H5.out.rg x hx).2; omega⟩,by simp,by simp,fun i x h => absurd h (by simp),fun i h => absurd h (by simp)⟩,rfl,by simp,by simp,by simp,⟨?_,Own.nil _,Own.nil _,fun _ _ h => by (cases h),fun _ _ h => by (cases h),fun _ h => by (cases h),by simp only; omega,by simp,by simp⟩,?_⟩
   · exact Own.base (B := W.heap.size) (show OwnI _ _ _ _ from (ownsRow_setCell_below (ownsRow_setCell_below (ownsRow_setCell_below (ownsRow_setCell_below HE.out (by have := HZ0.out; simp only; omega) _) (by have := HZ0.out; simp only; omega) _) (by have := HZ0.out; simp only; omega) _) (by have := HZ0.out; simp only; omega) _)) (by have := HZ0.out; omega)
   · exact ((((W2.out.setCell (by omega) _).setCell (by omega) _).setCell (by omega) _).setCell (by omega) _).b
 · go_wp2_with fail
   generalize hW : (w.alloc (.cells #[.int .u8 g.s,.int .u8 g.m,.int .u8 g.r0.x0,.int .u8 g.r0.x1,.int .u8 g.r0.x2,.int .u8 g.r0.x3,.int .u8 g.r0.x4,.int .u8 g.r1.x0,.int .u8 g.r1.x1,.int .u8 g.r1.x2,.int .u8 g.r1.x3,.int .u8 g.r1.x4,.int .u8 g.r2.x0,.int .u8 g.r2.x1,.int .u8 g.r2.x2,.int .u8 g.r2.x3,.int .u8 g.r2.x4,.int .u8 g.r3.x0,.int .u8 g.r3.x1,.int .u8 g.r3.x2,.int .u8 g.r3.x3,.int .u8 g.r3.x4,.int .u8 g.r4.x0,.int .u8 g.r4.x1,.int .u8 g.r4.x2,.int .u8 g.r4.x3,.int .u8 g.r4.x4] 27)).alloc (.cells #[.slice none 0 0,.int .i64 0,.slice none 0 0,.slice none 0 0] 35) = W at *
   clear hW
   refine (Empty_c A c al W (HA.out.below IntE.stays W0.out.b) (by omega) HN.out).mono ?_
   rintro e w2 ⟨AE,cE,rfl,HE,hb⟩
   have W2 := Lib.hid (W0.out.next hb)
   have C2 := Lib.hid (C0.out.below hb)
   have R2 : Hid (BlkAt w2 (w.heap.size + 1) 35 [.slice none 0 0,.int .i64 0,.slice none 0 0,.slice none 0 0]) := R0.out.below hb R0.out.lt
   clear hb q0 q1 R0 C0
   have q0 := C2.out.c 0 _ rfl
   have q1 := C2.out.c 1 _ rfl
   have hz2 := C2.out.z
   go_wp2_with fail
   have HSE := Lib.hid (HSM.out hbig)
   clear HBG HSM
   have HNG' := nsG_eq g
   obtain ⟨nG,hnG⟩ : ∃ n,nsG g = n := ⟨_,rfl⟩
   rw [hnG] at HNG' HSE
   obtain ⟨N,hN,hN1,hN5⟩ : ∃ N : Nat,1 + g.s % 5 = (N : Int) ∧ 1 ≤ N ∧ N ≤ 5 := ⟨(1 + g.s % 5).toNat,by omega,by omega,by omega⟩
   have HNN : nG = N := by have := hs.1; omega
   clear HNG'
   have HNQ := Lib.hid HNN
   have HNG := Lib.hid (hnG.trans HNN)
   clear HNN hnG
   generalize 1 + g.s % 5 = n at *
   subst hN
   have ST : Hid (OutSt w2.heap.size N (.slice AE al.length cE) (.slice none 0 0) (.slice none 0 0) [] [] (w2.alloc (.cells #[.slice AE al.length cE,.int .i64 N,.slice none 0 0,.slice none 0 0] 35))) := ⟨BlkAt.new w2 _ [_,_,_,_],Own.nil _,Own.nil _,fun _ h => by cases h⟩
   have BB : Hid (Fro w2.heap.size w2 (w2.alloc (.cells #[.slice AE al.length cE,.int .i64 N,.slice none 0 0,.slice none 0 0] 35))) := (Fro.here w2).alloc _
   generalize hW3 : w2.alloc (.cells #[.slice AE al.length cE,.int .i64 N,.slice none 0 0,.slice none 0 0] 35) = W3 at *
   clear hW3 q0 q1 hz2
   have CB : Hid (∀ V,Fro w2.heap.size w2 V → HasAt w.heap.size g.cells V) := fun V hb => C2.out.below hb.b
   have AB : Hid (∀ V,Fro w2.heap.size w2 V → IntsAt V A al) := fun V hb => HA.out.below IntE.stays (W2.out.next hb.b).b
   go_loopw [6] (fun j wr => ∃ (i : Nat) (v2 v3 : Value) (ms : List Int) (es : List Ed),j = .int .i64 i ∧ i ≤ N ∧ Hid (OutSt w2.heap.size N (.slice AE al.length cE) v2 v3 ms es wr) ∧ Hid (Fro w2.heap.size w2 wr) ∧ Hid (ms.length ≤ i ∧ es.length ≤ i * 5 ∧ ∀ x,x ∈ es → 0 ≤ x.dst ∧ x.dst < (N : Int)) ∧ Hid (ms = msF g i ∧ es = esF g al N i)) (fun j _ => N - (intOf j).toNat)
   case atStart => exact ⟨0,_,_,[],[],rfl,by omega,ST.out,BB.out,⟨by simp,by simp,by simp⟩,⟨rfl,rfl⟩⟩
   case round =>
    obtain ⟨i,v2,v3,ms,es,rfl,hi,HS,BR,HL,HQ⟩ := hrel
    have s1 := HS.out.blk.cell 1
    by_cases hlt : i < N
    · have q1 := (CB.out wr BR.out).c 1 _ rfl
      have hml := HL.out.1
      obtain ⟨bt,hbt⟩ : ∃ b,bitS g.m i = b := ⟨_,rfl⟩
      have hbt' : (bits BinOp.and IntKind.u8 (g.m / 2 ^ i) 1 == 1) = bt := hbt
      have HBT := Lib.hid hbt
      clear hbt
      go_upto_if 33 with fail
      go_cut [] (fun wx => Hid (Fro w2.heap.size w2 wx) ∧ ∃ (v2' : Value) (ms' : List Int),Hid (OutSt w2.heap.size N (.slice AE al.length cE) v2' v3 ms' es wx) ∧ Hid (ms'.length ≤ i + 1) ∧ Hid (ms' = msF g (i + 1)))
      case first =>
       have b2 := HS.out.blk.cell 2
       have f2 := HS.out.blk.free 2
       cases bt
       · clear b2 f2
         go_wp2_with fail
         go_meet
         exact ⟨BR.out,v2,ms,HS.out,by unfold Hid; omega,by rw [msF_no HBT.out]; exact HQ.out.1⟩
       · go_wp2_with (at_builtin; refine wpList_push rfl _ _ 32 rfl (HS.out.o2.alloc _) Tryd.underlying32 _ 8 intInfo rfl (by decide) rfl (i : Int) wr.heap.size rfl rfl (one_cell _ _ _ _ rfl) (encI_one _) (by omega) (by decide) (HS.out.z _) ?_)
         intro A' c' w5 ho hg hat
         have HSA : Hid (OutSt w2.heap.size N (.slice AE al.length cE) v2 v3 ms es (wr.alloc (.cells #[.int .i64 i] 3))) := HS.out.below (Below.new _ _)
         have HO := Lib.hid ho
         have HGR : Hid ((wr.alloc (.cells #[.int .i64 i] 3)).grownBy w5 v2.ownBlock) := hg
         have HAT : Hid ((Value.slice A' (ms.length + 1) c').ownBlock = v2.ownBlock ∨ (Value.slice A' (ms.length + 1) c').ownBlock = some (wr.alloc (.cells #[.int .i64 i] 3)).heap.size) := by simp only [Hid,World.size_alloc]; exact hat
         have q2 : w5.cell? ⟨w2.heap.size,2,none⟩ = some v2 := (HSA.out.blk.grown HGR.out (fun e => by have := (HSA.out.o2.lt _ e.symm).1; omega)).cell 2
         have q2f : w5.frozen? ⟨w2.heap.size,2,none⟩ = false := (HSA.out.blk.grown HGR.out (fun e => by have := (HSA.out.o2.lt _ e.symm).1; omega)).free 2
         clear ho hg hat b2 f2
         go_wp2_with fail
         go_meet
         exact ⟨HSA.out.fro2 (BR.out.alloc _) HGR.out _ 2,_,_,HSA.out.mark HO.out HGR.out HAT.out,by simp [Hid]; omega,by rw [Hid,msF_yes HBT.out,← HQ.out.1]⟩
      case rest =>
       obtain ⟨BC,v2',ms',HSC,HM,HQM⟩ := hcut
       clear hbt'
       clear HS BR
       go_wp2_with fail
       go_loopw [7] (fun j wr => ∃ (k : Nat) (v3' : Value) (es' : List Ed),j = .int .i64 k ∧ k ≤ al.length ∧ Hid (OutSt w2.heap.size N (.slice AE al.length cE) v2' v3' ms' es' wr) ∧ Hid (Fro w2.heap.size w2 wr) ∧ Hid (es'.length ≤ i * 5 + k ∧ ∀ x,x ∈ es' → 0 ≤ x.dst ∧ x.dst < (N : Int)) ∧ Hid (es' = es ++ rowF g al N i k)) (fun j _ => al.length - (intOf j).toNat)
       case atStart => exact ⟨0,_,es,rfl,by omega,HSC.out,BC.out,⟨by have := HL.out.2.1; omega,HL.out.2.2⟩,by simp [Hid,rowF]⟩
       case round =>
        obtain ⟨k,v3',es',rfl,hk,HS3,BR3,HL3,HQ3⟩ := hrel
        by_cases hkl : k < al.length
        · have hk5 : k < 5 := by omega
          obtain ⟨x,hx,hx0,hx1⟩ := Gr.get HG.out (i := i) (k := k) (by omega) hk5
          have hcx := (CB.out wr BR3.out).c _ _ hx
          have s1 := HS3.out.blk.cell 1
          have hz := (CB.out wr BR3.out).z
          have HGV : Hid (gvV g i k = x) := by unfold gvV; rw [hx]; rfl
          clear hx
          have iI : (i : Int) < 5 := by omega
          have kI : (k : Int) < 5 := by omega
          have e1 : IntKind.i64.wrap ((N : Int) + 2) = (N : Int) + 2 := IntWalk.i64_in _ (by omega)
          go_wp2_with fail
          go_quiet (fail)
          have ht0 : 0 ≤ x % ((N : Int) + 2) := Int.emod_nonneg _ (by omega)
          obtain ⟨tt,htt⟩ : ∃ t,gvV g i k % ((N : Int) + 2) = t := ⟨_,rfl⟩
          have HTT := Lib.hid htt
          have htx : x % ((N : Int) + 2) = tt := by rw [← HGV.out]; exact htt
          clear htt
          generalize x % ((N : Int) + 2) = t at *
          have HTX := Lib.hid htx
          clear htx
          have BV : Hid (Fro w2.heap.size w2 (wr.drewN nq)) := BR3.out.draws nq
          have HSV : Hid (OutSt w2.heap.size N (.slice AE al.length cE) v2' v3' ms' es' (wr.drewN nq)) := HS3.out.below ((Below.refl _ _).draws nq)
          generalize hV : wr.drewN nq = V at *
          clear hV s1 hcx hz e1 HS3 BR3
          have s1 := HSV.out.blk.cell 1
          by_cases htn : t < (N : Int)
          · obtain ⟨b2,off2,e,hA1,hb2,he,hce⟩ := IntsAt.at (AB.out V BV.out) hkl
            subst hA1
            have HEV : Hid (al.getD k 0 = e) := by rw [Hid,List.getD_eq_getElem?_getD,he]; rfl
            clear he
            have b3 := HSV.out.blk.cell 3
            have f3 := HSV.out.blk.free 3
            have hz5 := HSV.out.blk.lt
            have hne : ¬ w2.heap.size = V.heap.size := by omega
            have hne2 : ¬ V.heap.size = w2.heap.size := by omega
            have HSE : Hid (OutSt w2.heap.size N (.slice AE al.length cE) v2' v3' ms' es' ((V.alloc (.cells #[.int .i64 i,.int .i64 e,.int .i64 t] 87)).drew)) := HSV.out.below (Below.new _ _).drew
            have hln := HL3.out.1
            have HO3 := Lib.hid HSE.out.o3
            go_wp2_with fail
            go_region_law (
             (refine step_append_at rfl (.tmp 66) (.tmp 74) 33 rfl (w2.heap.size + 1) 87 _ 3 24 Tryd.underlying33 edInfo rfl (by decide) v3' _ _ rfl HO3.out ⟨V.heap.size,0,none⟩ 1 1 (Ed.cells ⟨(i : Int),e,t⟩) rfl rfl ?_ ?_ ?_ ?_ ?_ ?_
              (exact new_cells (by simp))
              (intro u hu; simp [Ed.cells] at hu; rcases hu with rfl | rfl | rfl <;> rfl)
              (simp only [maxLen]; omega)
              (omega)
              (simp; omega)
              intro A' c' w7 ho hg hb'
              have HO7 := Lib.hid (Own.pushed ho)
              have HG7 := Lib.hid hg
              have HB7 := Lib.hid hb'
              have q7 : w7.cell? ⟨w2.heap.size,3,none⟩ = some v3' := (HSE.out.blk.grown HG7.out (fun e => by have := (HSE.out.o3.lt _ e.symm).1; omega)).cell 3
              have q7f : w7.frozen? ⟨w2.heap.size,3,none⟩ = false := (HSE.out.blk.grown HG7.out (fun e => by have := (HSE.out.o3.lt _ e.symm).1; omega)).free 3
              clear ho hg hb'))
            all_goals
             go_wp2
             go_roundw
             case rel => exact ⟨k + 1,_,_,by go_num,by omega,HSE.out.edge HO7.out HG7.out HB7.out,HSE.out.fro3 (BV.out.alloc _).drew HG7.out _ 3,⟨by simp; omega,fun y hy => by
              simp only [List.mem_append,List.mem_singleton] at hy
              rcases hy with hy | rfl
              · exact HL3.out.2 y hy
              · exact ⟨ht0,htn⟩⟩,by rw [Hid,rowF_yes (by rw [HTT.out,← HTX.out]; exact htn),HTT.out,← HTX.out,HEV.out,← List.append_assoc,← HQ3.out]⟩
             case measure => simp [intOf]; omega
          · go_wp2
            go_roundw
            case rel => exact ⟨k + 1,v3',es',by go_num,by omega,HSV.out,BV.out,⟨by have := HL3.out.1; omega,HL3.out.2⟩,by rw [rowF_no (by rw [HTT.out,← HTX.out]; exact htn)]; exact HQ3.out⟩
            case measure => simp [intOf]; omega
        · obtain rfl : k = al.length := by omega
          go_wp2
          go_roundw
          case rel => exact ⟨i + 1,v2',v3',ms',es',by go_num,by omega,HS3.out,BR3.out,⟨HM.out,by have := HL3.out.1; omega,HL3.out.2⟩,⟨HQM.out,by rw [HQ3.out,HQ.out.2]; rfl⟩⟩
          case measure => simp [intOf]; omega
    · obtain rfl : i = N := by omega
      obtain ⟨M2,m2,rfl⟩ := HS.out.o2.form
      obtain ⟨M3,m3,rfl⟩ := HS.out.o3.form
      have s0 := HS.out.blk.cell 0
      have s2 := HS.out.blk.cell 2
      have s3 := HS.out.blk.cell 3
      have hml := HL.out.1
      have hel := HL.out.2.1
      have a1 : OwnI W.heap.size al (.slice AE al.length cE) wr := Own.below HE.out BR.out.b (Nat.le_refl _)
      have RAW : Raw ⟨al,i,ms,es⟩ := ⟨H5.out.inc.setOk fun x hx => ⟨(H5.out.rg x hx).1,by have := (H5.out.rg x hx).2; omega⟩,by simp only; omega,by simp only; omega,HL.out.2.2⟩
      have HRR := Lib.hid (canonV_right RAW)
      have HSZ := Lib.hid (canonV_sizes RAW)
      have HCC := Lib.hid (Canonical_c ⟨al,i,ms,es⟩ ⟨AE,cE,M2,m2,M3,m3⟩ wr ⟨OwnI.ints a1,HS.out.o2.ints,Own.reads (fun _ => rfl) HS.out.o3,by simp only; omega,by simp only; omega,by simp only; omega⟩ RAW (fun e => Own.none a1 e) (by simp only; omega))
      have RW : Hid (BlkAt wr (w.heap.size + 1) 35 [.slice none 0 0,.int .i64 0,.slice none 0 0,.slice none 0 0]) := R2.out.below BR.out.b R2.out.lt
      have BW : Hid (Fro w.heap.size w wr) := W2.out.next BR.out.b
      clear a1 RAW
      go_wp2_with fail
      refine HCC.out.mono ?_
      rintro e w5 ⟨p,rfl,HP,hb⟩
      have HP' := Lib.hid HP.out.at
      have B5 := Lib.hid (BW.out.next hb)
      have R5 : Hid (BlkAt w5 (w.heap.size + 1) 35 [.slice none 0 0,.int .i64 0,.slice none 0 0,.slice none 0 0]) := RW.out.below hb RW.out.lt
      have HP0 := Lib.hid HP.out
      clear hb s0 s1 s2 s3 HP
      have r0 := R5.out.cell 0
      have r1 := R5.out.cell 1
      have r2 := R5.out.cell 2
      have r3 := R5.out.cell 3
      have f0 := R5.out.free 0
      have f1 := R5.out.free 1
      have f2 := R5.out.free 2
      have f3 := R5.out.free 3
      have hwz : w.heap.size + 1 < wr.heap.size := RW.out.lt
      have HAL : Hid ((canonV ⟨al,i,ms,es⟩).al = al) := rfl
      have HME : Hid (MV = canonV ⟨al,i,ms,es⟩) := by rw [Hid,HSE.out,HNQ.out,HQ.out.1,HQ.out.2]
      generalize canonV ⟨al,i,ms,es⟩ = cv at *
      obtain ⟨cal,cn,cms,ces⟩ := cv
      obtain ⟨X1,x1,X2,x2,X3,x3⟩ := p
      try dsimp only [Au.val] at *
      go_wp2
      refine bodyPost_ret (v := .agg #[.slice X1 cal.length x1,.int .i64 cn,.slice X2 cms.length x2,.slice X3 ces.length x3]) (by simp [results,Tryd.results23,go_sem, *]) rfl ?_
      have st : ∀ {α : Type} {enc : α → List Value} {kk TT B : Nat} {l : List α} {v : Value} (V : World) (j : Nat) (u : Value),w.heap.size + 2 ≤ B → Own enc kk TT B l v V → Own enc kk TT B l v (V.setCell ⟨w.heap.size + 1,j,none⟩ u) := fun V j u hB h => ownsRow_setCell_below h (show w.heap.size + 1 < _ by omega) u
      have zb : w.heap.size + 2 ≤ wr.heap.size := by omega
      have o1 := HP0.out.al
      have o2 := HP0.out.mr
      have o3 := HP0.out.ed
      have sz := HP0.out.sm
      have hz1 := HSZ.out.1
      have hz2 := HSZ.out.2.1
      have hz3 := HSZ.out.2.2
      have hi5 : i * al.length ≤ 5 * 5 := Nat.mul_le_mul hN5 hal
      simp only [Int.toNat_natCast] at *
      refine ⟨⟨cal,cn,cms,ces⟩,⟨X1,x1,X2,x2,X3,x3⟩,HMV.out.trans HME.out,rfl,HRR.out,HAL.out,by simp only; omega,by simp only; omega,by simp only; omega,⟨?_,?_,?_,HP0.out.d1,HP0.out.d2,HP0.out.d3,by simp only; omega,by simp only; omega,by simp only; omega⟩,?_⟩
      · exact Own.base (st _ _ _ zb (st _ _ _ zb (st _ _ _ zb (st _ _ _ zb o1)))) (by omega)
      · exact Own.base (st _ _ _ zb (st _ _ _ zb (st _ _ _ zb (st _ _ _ zb o2)))) (by omega)
      · exact Own.base (st _ _ _ zb (st _ _ _ zb (st _ _ _ zb (st _ _ _ zb o3)))) (by omega)
      · exact ((((B5.out.setCell (by omega) _).setCell (by omega) _).setCell (by omega) _).setCell (by omega) _).b

end Go.Proofs.YtkifgffhoenaoaaDoor
