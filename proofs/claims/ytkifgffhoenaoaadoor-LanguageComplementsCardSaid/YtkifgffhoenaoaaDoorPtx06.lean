/-
  overseerref09.Combine.
  overseerref03.SameInts and Same, at equal data.
  language.Least and Empty at right automata.
  overseerlaw09.LanguageComplements.
-/
import Derived.Test.YtkifgffhoenaoaaDoorBas01
import Derived.Test.YtkifgffhoenaoaaDoorPtx05
import Derived.Deep.CutBlock
import Derived.Test.YtkifgffhoenaoaaDoorBas07
import Derived.BigQuiet
import Derived.Test.YtkifgffhoenaoaaDoorBas18
import Derived.Test.YtkifgffhoenaoaaDoorBas15
import Derived.Test.YtkifgffhoenaoaaDoorPtx02
set_option linter.unusedSimpArgs false
set_option linter.unusedVariables false
namespace Go.Proofs.YtkifgffhoenaoaaDoor
open Go.RowKit
set_option maxRecDepth 100000
theorem find9_e (A : Option Addr) (c : Nat) (raw : List PrV) (l : List Pr) (x y r : Int) (w : World) {n : Nat} {w0 : World} {Es : List Ent} {fs : List Nat} (S : Sep n w0 Es w) (i j : Nat) (hi : Es[i]? = some (eWds fs raw l)) (hj : Es[j]? = some (eOwn PrV.cells 3 82 raw (.slice A raw.length c))) (hnd : (prsOf l).Nodup) (hl : ∀ p,p ∈ l → p.w.length ≤ 1000000) (hlen0 : raw.length ≤ 4096) (hr : posK (prsOf l) (x,y) = r) :
 Calls Tryd.prog 47 #[.slice A raw.length c,.int .i64 x,.int .i64 y] w (fun e w' => e = .returned (.int .i64 r) ∧ w = w') := by
 have hrl : raw.length = l.length := (S.get i hi).1
 have hlen : l.length ≤ 140737488355328 := by
  omega
 have h := find9_c A c l x y w (PrsAt.of S i j hi hj fun p hp => Nat.le_trans (hl p hp) (by decide)) hlen
 rw [← hrl] at h
 refine h.mono ?_
 rintro e w' ⟨q,rfl,hf,rfl⟩
 refine ⟨?_,rfl⟩
 rcases hf.out with ⟨rfl,hm⟩ | ⟨t,rfl,ht⟩
 · rw [← hr,posK_no (l := prsOf l) hm]
 · rw [← hr,posK_get (l := prsOf l) hnd ht]
def HowOk (how : Int) (ch : Bool → Bool → Bool) : Prop := (how = 1 ∧ ch = fun x y => x && y) ∨ (how = 2 ∧ ch = fun x y => x || y) ∨ (how = 3 ∧ ch = fun x y => x && !y)
theorem HowOk.ff {how : Int} {ch : Bool → Bool → Bool} (h : HowOk how ch) : ch false false = false := by
 rcases h with ⟨_,rfl⟩ | ⟨_,rfl⟩ | ⟨_,rfl⟩ <;> rfl
set_option maxHeartbeats 16000000 in
theorem combine9_c (a b : Au) (p q : AuP) (how : Int) (ch : Bool → Bool → Bool) (w : World) (hh : HowOk how ch) (ha : a.Right) (hb : b.Right) (hA : Au.At w a p) (hB : Au.At w b q) (hN : (a.n.toNat + 1) * (b.n.toNat + 1) ≤ 4096) :
 Calls Tryd.prog 20 #[a.val p,b.val q,.int .i64 how] w (GivesMn (unionV a.al b.al) (CoL a b ch) w) := by
 have HRA := Lib.hid ha
 have HRB := Lib.hid hb
 have HA := Lib.hid hA
 have HB := Lib.hid hB
 have HH := Lib.hid hh
 have hal : a.al.length ≤ 32 := by simpa using ha.al.short
 have hbl : b.al.length ≤ 32 := by simpa using hb.al.short
 have hul : (unionV a.al b.al).length ≤ 32 := unionL_len ha hb
 have HN := Lib.hid hN
 obtain ⟨al,n,mr,ed⟩ := a
 obtain ⟨A1,c1,A2,c2,A3,c3⟩ := p
 obtain ⟨bl,k,ms,es⟩ := b
 obtain ⟨B1,d1,B2,d2,B3,d3⟩ := q
 try dsimp only [Au.val] at *
 clear ha hb hA hB hh hN
 go_enter Tryd.func20,Tryd.ntmps20
 go_upto_region 1 with fail
 refine wp_world (fun W => Sep w.heap.size w [eBlk (w.heap.size + 2) 35 [.slice none 0 0,.int .i64 0,.slice none 0 0,.slice none 0 0],eBlk (w.heap.size + 1) 35 [.slice B1 bl.length d1,.int .i64 k,.slice B2 ms.length d2,.slice B3 es.length d3],eBlk w.heap.size 35 [.slice A1 al.length c1,.int .i64 n,.slice A2 mr.length c2,.slice A3 ed.length c3]] W) ?_ fun W S => ?_
 · exact (((Sep.here w).alloc' _ [_,_,_,_] rfl rfl).alloc' _ [_,_,_,_] rfl (by simp)).alloc' _ [_,_,_,_] rfl (by simp)
 have S0 := Lib.hid S
 clear S
 have a0 := ckC S0.out 2 rfl 0 rfl
 have a1 := ckC S0.out 2 rfl 1 rfl
 have a2 := ckC S0.out 2 rfl 2 rfl
 have a3 := ckC S0.out 2 rfl 3 rfl
 have b0 := ckC S0.out 1 rfl 0 rfl
 have b1 := ckC S0.out 1 rfl 1 rfl
 have b2 := ckC S0.out 1 rfl 2 rfl
 have b3 := ckC S0.out 1 rfl 3 rfl
 go_wp2_with fail
 refine (pairs_c ⟨al,n,mr,ed⟩ ⟨bl,k,ms,es⟩ ⟨A1,c1,A2,c2,A3,c3⟩ ⟨B1,d1,B2,d2,B3,d3⟩ W HRA.out HRB.out (HA.out.below S0.out.below) (HB.out.below S0.out.below) (Nat.le_trans HN.out (by decide))).mono ?_
 rintro e W1 ⟨raw,l,AR,cR,fs,rfl,T,PL,PS⟩
 have S1 := ckN S0.out T.out
 clear T S0 PS a0 a1 a2 a3 b0 b1 b2 b3
 have hrl : Hid (raw.length = l.length) := (S1.out.get 0 rfl).1
 have hlen : raw.length ≤ 4096 := by rw [hrl.out]; exact Nat.le_trans (PL.out.len HRA.out HRB.out) HN.out
 have HND : Hid (prsOf l).Nodup := PL.out.nd
 have HLW : Hid (∀ p,p ∈ l → p.w.length ≤ 1000000) := fun p hp => by
  obtain ⟨j,hj,rfl⟩ := List.mem_iff_getElem.1 hp
  have h1 := PL.out.word (List.getElem?_eq_getElem hj)
  have h2 := hrl.out
  omega
 have RT := Lib.hid (comb_right HRA.out HRB.out PL.out ch HN.out)
 have LG : Hid (∀ u,rn (combV ⟨al,n,mr,ed⟩ ⟨bl,k,ms,es⟩ ch l) u ∈ (combV ⟨al,n,mr,ed⟩ ⟨bl,k,ms,es⟩ ch l).mr ↔ CoL ⟨al,n,mr,ed⟩ ⟨bl,k,ms,es⟩ ch u) := fun u => comb_lang HRA.out HRB.out PL.out HH.out.ff HN.out u
 have a0 := ckC S1.out 4 rfl 0 rfl
 have b0 := ckC S1.out 3 rfl 0 rfl
 go_wp2_with fail
 refine (u01_c A1 B1 c1 d1 al bl W1 (HA.out.below S1.out.below).al (HB.out.below S1.out.below).al (by omega)).mono ?_
 rintro e W2 ⟨AL,cL,rfl,HO,hb⟩
 obtain ⟨ul,hule⟩ : ∃ ul,unionV al bl = ul := ⟨_,rfl⟩
 rw [hule] at HO hul ⊢
 have HUE := Lib.hid hule
 have HALN : Hid (AL = none → cL = 0) := fun h => (Own.none HO.out h).2
 have S2 : Hid (Sep w.heap.size w [eInts ul (.slice AL ul.length cL),eWds fs raw l,eOwn PrV.cells 3 82 raw (.slice AR raw.length cR),eBlk (w.heap.size + 2) 35 [.slice none 0 0,.int .i64 0,.slice none 0 0,.slice none 0 0],eBlk (w.heap.size + 1) 35 [.slice B1 bl.length d1,.int .i64 k,.slice B2 ms.length d2,.slice B3 es.length d3],eBlk w.heap.size 35 [.slice A1 al.length c1,.int .i64 n,.slice A2 mr.length c2,.slice A3 ed.length c3]] W2) := S1.out.newI HO.out hb
 clear hb HO S1 a0 b0 hule
 obtain ⟨nb,hnb⟩ : ∃ g,g = W2.heap.size := ⟨_,rfl⟩
 go_upto_region 3 with fail
 rw [← hnb]
 refine wp_world (fun V => Sep w.heap.size w [eBlk nb 35 [.slice AL ul.length cL,.int .i64 ((raw.length : Nat) : Int),.slice none 0 0,.slice none 0 0],eInts [] (.slice none 0 0),eEds [] (.slice none 0 0),eInts ul (.slice AL ul.length cL),eWds fs raw l,eOwn PrV.cells 3 82 raw (.slice AR raw.length cR),eBlk (w.heap.size + 2) 35 [.slice none 0 0,.int .i64 0,.slice none 0 0,.slice none 0 0],eBlk (w.heap.size + 1) 35 [.slice B1 bl.length d1,.int .i64 k,.slice B2 ms.length d2,.slice B3 es.length d3],eBlk w.heap.size 35 [.slice A1 al.length c1,.int .i64 n,.slice A2 mr.length c2,.slice A3 ed.length c3]] V) ?_ fun V S' => ?_
 · exact (((S2.out.alloc' 35 [.slice AL ul.length cL,.int .i64 ((raw.length : Nat) : Int),.slice none 0 0,.slice none 0 0] rfl hnb).nilOwn encI 1 3).nilOwn Ed.cells 3 87).pick [2,1,0,3,4,5,6,7,8] (by decide)
 have S3 := Lib.hid S'
 clear S' S2 hnb
 go_wp2_with fail
 go_loopw [9,10,11,12,13,14] (fun v9 _ _ _ _ _ wr => ∃ (i : Nat) (v2 v3 : Value),v9 = .int .i64 (i : Int) ∧ i ≤ raw.length ∧ Hid (Sep w.heap.size w [eBlk nb 35 [.slice AL ul.length cL,.int .i64 ((raw.length : Nat) : Int),v2,v3],eInts (mkP ⟨al,n,mr,ed⟩ ⟨bl,k,ms,es⟩ ch l i) v2,eEds (rowsG ul (nxP ⟨al,n,mr,ed⟩ ⟨bl,k,ms,es⟩ l) i) v3,eInts ul (.slice AL ul.length cL),eWds fs raw l,eOwn PrV.cells 3 82 raw (.slice AR raw.length cR),eBlk (w.heap.size + 2) 35 [.slice none 0 0,.int .i64 0,.slice none 0 0,.slice none 0 0],eBlk (w.heap.size + 1) 35 [.slice B1 bl.length d1,.int .i64 k,.slice B2 ms.length d2,.slice B3 es.length d3],eBlk w.heap.size 35 [.slice A1 al.length c1,.int .i64 n,.slice A2 mr.length c2,.slice A3 ed.length c3]] wr)) (fun v9 _ _ _ _ _ _ => raw.length - (intOf v9).toNat)
 case atStart => exact ⟨0,_,_,rfl,Nat.zero_le _,S3.out⟩
 case round =>
  clear S3
  obtain ⟨i,v2,v3,rfl,hi,S⟩ := hrel
  by_cases hlt : i < raw.length
  · obtain ⟨gR,oR,r,rfl,hr⟩ := S.out.prs 5 rfl hlt
    obtain ⟨p,hp⟩ : ∃ p,l[i]? = some p := ⟨_,List.getElem?_eq_getElem (by rw [← hrl.out]; exact hlt)⟩
    obtain ⟨rx,ry,hwn,hwd⟩ := (S.out.get 4 rfl).2.2 i r p hr hp
    obtain ⟨rX,rY,rA,rn_,rc⟩ := r
    dsimp only at rx ry hwn hwd
    subst rx ry hwn
    have HGP := Lib.hid (prs_get hp)
    obtain ⟨hx1,hxe⟩ : ∃ x,inV ⟨al,n,mr,ed⟩ p.x 2 = x := ⟨_,rfl⟩
    obtain ⟨hy1,hye⟩ : ∃ x,inV ⟨bl,k,ms,es⟩ p.y 2 = x := ⟨_,rfl⟩
    have HX1 := Lib.hid hxe
    have HY1 := Lib.hid hye
    obtain ⟨pp,hpp⟩ : ∃ pp,ch hx1 hy1 = pp := ⟨_,rfl⟩
    have HPP : Hid (okQ ⟨al,n,mr,ed⟩ ⟨bl,k,ms,es⟩ ch ((prsOf l).getD i (-1,-1)) = pp) := by rw [Hid,HGP.out,← hpp,← hxe,← hye]; rfl
    have HPC := Lib.hid hpp
    clear hxe hye hwd hpp
    go_upto_region 6 with fail
    go_cut [10,11] (fun x y wx => x = .bool hx1 ∧ y = .bool hy1 ∧ Hid (Sep w.heap.size w [eBlk nb 35 [.slice AL ul.length cL,.int .i64 ((raw.length : Nat) : Int),v2,v3],eInts (mkP ⟨al,n,mr,ed⟩ ⟨bl,k,ms,es⟩ ch l i) v2,eEds (rowsG ul (nxP ⟨al,n,mr,ed⟩ ⟨bl,k,ms,es⟩ l) i) v3,eInts ul (.slice AL ul.length cL),eWds fs raw l,eOwn PrV.cells 3 82 raw (.slice (some ⟨gR,oR,none⟩) raw.length cR),eBlk (w.heap.size + 2) 35 [.slice none 0 0,.int .i64 0,.slice none 0 0,.slice none 0 0],eBlk (w.heap.size + 1) 35 [.slice B1 bl.length d1,.int .i64 k,.slice B2 ms.length d2,.slice B3 es.length d3],eBlk w.heap.size 35 [.slice A1 al.length c1,.int .i64 n,.slice A2 mr.length c2,.slice A3 ed.length c3]] wx))
    case first =>
          have S1 := Lib.hid S.out.drew
          refine wp_region_held_drew (S := (fun V => Sep w.heap.size w [eOwn PrV.cells 3 82 raw (.slice (some ⟨gR,oR,none⟩) raw.length cR),eBlk (w.heap.size + 1) 35 [.slice B1 bl.length d1,.int .i64 k,.slice B2 ms.length d2,.slice B3 es.length d3],eBlk w.heap.size 35 [.slice A1 al.length c1,.int .i64 n,.slice A2 mr.length c2,.slice A3 ed.length c3]] V)) (by kernel_rfl) ?_ (fun hHeld => ?_)
          · exact S1.out.pick [5,7,8] (by decide)
          generalize hwz : wr.drew = w1 at *
          clear hwz
          refine tkH 0 rfl (v := ?_) (by kernel_rfl) ?_ hHeld ?_
          rotate_left
          · intro V hSw
            have a0 := ckC hSw 2 rfl 0 rfl
            have a1 := ckC hSw 2 rfl 1 rfl
            have a2 := ckC hSw 2 rfl 2 rfl
            have a3 := ckC hSw 2 rfl 3 rfl
            clear hSw
            first | (go_simp; done) | (go_simp; with_reducible rfl)
          try simp only [sx]
          refine tkP 1 rfl (v := ?_) hHeld ?_
          try simp only [sx]
          refine tkP 2 rfl (v := ?_) hHeld ?_
          try simp only [sx]
          refine tkP 3 rfl (v := ?_) hHeld ?_
          try simp only [sx]
          refine tkP 4 rfl (v := ?_) hHeld ?_
          try simp only [sx]
          refine tkH 5 rfl (v := ?_) (by kernel_rfl) ?_ hHeld ?_
          rotate_left
          · intro V hSw
            have b0 := (Sep.prAt (show Sep w.heap.size w _ V from hSw) 0 rfl hr).1
            clear hSw
            first | (go_simp; done) | (go_simp; with_reducible rfl)
          try simp only [sx]
          refine tkH 7 rfl (v := ?_) (by kernel_rfl) ?_ hHeld ?_
          rotate_left
          · intro V hSw
            have b0 := ckC hSw 1 rfl 0 rfl
            have b1 := ckC hSw 1 rfl 1 rfl
            have b2 := ckC hSw 1 rfl 2 rfl
            have b3 := ckC hSw 1 rfl 3 rfl
            clear hSw
            first | (go_simp; done) | (go_simp; with_reducible rfl)
          try simp only [sx]
          refine tkP 8 rfl (v := ?_) hHeld ?_
          try simp only [sx]
          refine tkP 9 rfl (v := ?_) hHeld ?_
          try simp only [sx]
          refine tkP 10 rfl (v := ?_) hHeld ?_
          try simp only [sx]
          refine tkP 11 rfl (v := ?_) hHeld ?_
          try simp only [sx]
          refine tkH 12 rfl (v := ?_) (by kernel_rfl) ?_ hHeld ?_
          rotate_left
          · intro V hSw
            have b1 := (Sep.prAt (show Sep w.heap.size w _ V from hSw) 0 rfl hr).2.1
            clear hSw
            first | (go_simp; done) | (go_simp; with_reducible rfl)
          try simp only [sx]
          refine rdH 6 rfl fun K hK => ?_
          go_simp
          refine (has9_e ⟨al,n,mr,ed⟩ ⟨A1,c1,A2,c2,A3,c3⟩ p.x 2 hx1 w1 (HA.out.below S1.out.below).mr HA.out.lmk HX1.out).mono ?_
          rintro e w2 ⟨rfl,hb⟩
          have S2 := Lib.hid (S1.out.next hb)
          clear hb
          refine hK.out _ _ ?_ (fun hHeld => ?_)
          · exact S2.out.pick [5,7,8] (by decide)
          clear hK K
          try simp only [sx]
          refine rdH 13 rfl fun K hK => ?_
          go_simp
          refine (has9_e ⟨bl,k,ms,es⟩ ⟨B1,d1,B2,d2,B3,d3⟩ p.y 2 hy1 w2 (HB.out.below S2.out.below).mr HB.out.lmk HY1.out).mono ?_
          rintro e w3 ⟨rfl,hb⟩
          have S3 := Lib.hid (S2.out.next hb)
          clear hb
          refine hK.out _ _ ?_ (fun hHeld => ?_)
          · exact S3.out.pick [5,7,8] (by decide)
          clear hK K
          try simp only [sx]
          refine tkP 14 rfl (v := ?_) hHeld ?_
          try simp only [sx]
          refine tkP 15 rfl (v := ?_) hHeld ?_
          try simp only [sx]
          refine wpAnyH_done (by kernel_rfl) ?_ _
          go_wp2_with fail
          go_meet
          exact ⟨rfl,rfl,S3.out⟩
    case rest =>
     clear S
     obtain ⟨rfl,rfl,S⟩ := hcut
     go_upto_region 7 with fail
     go_cut [74] (fun v wx => v = .bool pp ∧ wx = wc)
     case first =>
      have hpc := HPC.out
      rcases HH.out with ⟨rfl,rfl⟩ | ⟨rfl,rfl⟩ | ⟨rfl,rfl⟩ <;> cases hx1 <;> cases hy1
      all_goals
       subst hpc
       clear HPC HPP
       go_wp2_with fail
       go_meet
       exact ⟨rfl,rfl⟩
     case rest =>
      obtain ⟨rfl,rfl⟩ := hcut
      have hmq : (mkP ⟨al,n,mr,ed⟩ ⟨bl,k,ms,es⟩ ch l i).length ≤ 1048576 := by have := mkP_len ⟨al,n,mr,ed⟩ ⟨bl,k,ms,es⟩ ch l i; omega
      go_upto_if 74 with fail
      go_cut [74] (fun v wx => ∃ (v2' : Value),Hid (Sep w.heap.size w [eBlk nb 35 [.slice AL ul.length cL,.int .i64 ((raw.length : Nat) : Int),v2',v3],eInts (mkP ⟨al,n,mr,ed⟩ ⟨bl,k,ms,es⟩ ch l (i + 1)) v2',eEds (rowsG ul (nxP ⟨al,n,mr,ed⟩ ⟨bl,k,ms,es⟩ l) i) v3,eInts ul (.slice AL ul.length cL),eWds fs raw l,eOwn PrV.cells 3 82 raw (.slice (some ⟨gR,oR,none⟩) raw.length cR),eBlk (w.heap.size + 2) 35 [.slice none 0 0,.int .i64 0,.slice none 0 0,.slice none 0 0],eBlk (w.heap.size + 1) 35 [.slice B1 bl.length d1,.int .i64 k,.slice B2 ms.length d2,.slice B3 es.length d3],eBlk w.heap.size 35 [.slice A1 al.length c1,.int .i64 n,.slice A2 mr.length c2,.slice A3 ed.length c3]] wx))
      case first =>
       cases pp
       case true =>
        have hMS : Hid (mkP ⟨al,n,mr,ed⟩ ⟨bl,k,ms,es⟩ ch l (i + 1) = mkP ⟨al,n,mr,ed⟩ ⟨bl,k,ms,es⟩ ch l i ++ [(i : Int)]) := by rw [Hid,mkP_succ,if_pos HPP.out]
        have q2 := ckC S.out 0 rfl 2 rfl
        go_wp2_with (at_builtin; refine wpList_pushS rfl _ _ 32 rfl (S.out.alloc 3 [.int .i64 (i : Int)]) 2 rfl Tryd.underlying32 _ 8 intInfo rfl (by decide) rfl (i : Int) _ rfl rfl (one_cell _ _ [_] _ rfl) (encI_one _) hmq (by decide) ?_)
        intro A5 c5 w6 S9 _
        have S10 : Hid (Sep w.heap.size w (([eBlk nb 35 [.slice AL ul.length cL,.int .i64 ((raw.length : Nat) : Int),v2,v3],eInts (mkP ⟨al,n,mr,ed⟩ ⟨bl,k,ms,es⟩ ch l i) v2,eEds (rowsG ul (nxP ⟨al,n,mr,ed⟩ ⟨bl,k,ms,es⟩ l) i) v3,eInts ul (.slice AL ul.length cL),eWds fs raw l,eOwn PrV.cells 3 82 raw (.slice (some ⟨gR,oR,none⟩) raw.length cR),eBlk (w.heap.size + 2) 35 [.slice none 0 0,.int .i64 0,.slice none 0 0,.slice none 0 0],eBlk (w.heap.size + 1) 35 [.slice B1 bl.length d1,.int .i64 k,.slice B2 ms.length d2,.slice B3 es.length d3],eBlk w.heap.size 35 [.slice A1 al.length c1,.int .i64 n,.slice A2 mr.length c2,.slice A3 ed.length c3]]).set 1 (eInts (mkP ⟨al,n,mr,ed⟩ ⟨bl,k,ms,es⟩ ch l (i + 1)) (.slice A5 ((mkP ⟨al,n,mr,ed⟩ ⟨bl,k,ms,es⟩ ch l i).length + 1) c5))) w6) := by
         rw [hMS.out]
         exact S9.drop1
        have u2 := ckC S10.out 0 rfl 2 rfl
        have f2 := BlkAt.free (S10.out.get 0 rfl) 2
        have S11 := Lib.hid (S10.out.set 0 rfl 2 (.slice A5 ((mkP ⟨al,n,mr,ed⟩ ⟨bl,k,ms,es⟩ ch l i).length + 1) c5))
        clear S S9 S10 q2
        go_wp2_with fail
        go_meet
        exact ⟨_,S11.out⟩
       case false =>
        have S11 : Hid (Sep w.heap.size w (([eBlk nb 35 [.slice AL ul.length cL,.int .i64 ((raw.length : Nat) : Int),v2,v3],eInts (mkP ⟨al,n,mr,ed⟩ ⟨bl,k,ms,es⟩ ch l i) v2,eEds (rowsG ul (nxP ⟨al,n,mr,ed⟩ ⟨bl,k,ms,es⟩ l) i) v3,eInts ul (.slice AL ul.length cL),eWds fs raw l,eOwn PrV.cells 3 82 raw (.slice (some ⟨gR,oR,none⟩) raw.length cR),eBlk (w.heap.size + 2) 35 [.slice none 0 0,.int .i64 0,.slice none 0 0,.slice none 0 0],eBlk (w.heap.size + 1) 35 [.slice B1 bl.length d1,.int .i64 k,.slice B2 ms.length d2,.slice B3 es.length d3],eBlk w.heap.size 35 [.slice A1 al.length c1,.int .i64 n,.slice A2 mr.length c2,.slice A3 ed.length c3]]).set 1 (eInts (mkP ⟨al,n,mr,ed⟩ ⟨bl,k,ms,es⟩ ch l (i + 1)) v2)) wc) := by
         rw [mkP_succ,if_neg (by rw [HPP.out]; simp)]
         exact S.out
        clear S
        go_wp2_with fail
        go_meet
        exact ⟨v2,S11.out⟩
      case rest =>
       clear S hmq HPP HPC
       obtain ⟨v2,S⟩ := hcut
       have S0 : Hid (Sep w.heap.size w [eBlk nb 35 [.slice AL ul.length cL,.int .i64 ((raw.length : Nat) : Int),v2,v3],eInts (mkP ⟨al,n,mr,ed⟩ ⟨bl,k,ms,es⟩ ch l (i + 1)) v2,eEds (rowsG ul (nxP ⟨al,n,mr,ed⟩ ⟨bl,k,ms,es⟩ l) i ++ rowG (ul.take 0) i (nxP ⟨al,n,mr,ed⟩ ⟨bl,k,ms,es⟩ l i)) v3,eInts ul (.slice AL ul.length cL),eWds fs raw l,eOwn PrV.cells 3 82 raw (.slice (some ⟨gR,oR,none⟩) raw.length cR),eBlk (w.heap.size + 2) 35 [.slice none 0 0,.int .i64 0,.slice none 0 0,.slice none 0 0],eBlk (w.heap.size + 1) 35 [.slice B1 bl.length d1,.int .i64 k,.slice B2 ms.length d2,.slice B3 es.length d3],eBlk w.heap.size 35 [.slice A1 al.length c1,.int .i64 n,.slice A2 mr.length c2,.slice A3 ed.length c3]] wc) := by
        have e : rowG (ul.take 0) i (nxP ⟨al,n,mr,ed⟩ ⟨bl,k,ms,es⟩ l i) = [] := rfl
        rw [e,List.append_nil]
        exact S.out
       clear S
       go_wp2_with fail
       go_loopw [12,13,14] (fun v12 _ _ wr => ∃ (t : Nat) (v3' : Value),v12 = .int .i64 (t : Int) ∧ t ≤ ul.length ∧ Hid (Sep w.heap.size w [eBlk nb 35 [.slice AL ul.length cL,.int .i64 ((raw.length : Nat) : Int),v2,v3'],eInts (mkP ⟨al,n,mr,ed⟩ ⟨bl,k,ms,es⟩ ch l (i + 1)) v2,eEds (rowsG ul (nxP ⟨al,n,mr,ed⟩ ⟨bl,k,ms,es⟩ l) i ++ rowG (ul.take t) i (nxP ⟨al,n,mr,ed⟩ ⟨bl,k,ms,es⟩ l i)) v3',eInts ul (.slice AL ul.length cL),eWds fs raw l,eOwn PrV.cells 3 82 raw (.slice (some ⟨gR,oR,none⟩) raw.length cR),eBlk (w.heap.size + 2) 35 [.slice none 0 0,.int .i64 0,.slice none 0 0,.slice none 0 0],eBlk (w.heap.size + 1) 35 [.slice B1 bl.length d1,.int .i64 k,.slice B2 ms.length d2,.slice B3 es.length d3],eBlk w.heap.size 35 [.slice A1 al.length c1,.int .i64 n,.slice A2 mr.length c2,.slice A3 ed.length c3]] wr)) (fun v12 _ _ _ => ul.length - (intOf v12).toNat)
       case atStart => exact ⟨0,v3,rfl,Nat.zero_le _,S0.out⟩
       case round =>
        clear S0
        obtain ⟨t,v3,rfl,ht,S⟩ := hrel
        have o0 := ckC S.out 0 rfl 0 rfl
        by_cases htl : t < ul.length
        · obtain ⟨gL,oL,ev,rfl,_,hev,ce⟩ := IntsAt.at (S.out.ints 3 rfl) htl
          have HT : Hid (ul.take (t + 1) = ul.take t ++ [ev]) := by rw [Hid,List.take_add_one,hev]; rfl
          obtain ⟨tx,htx⟩ : ∃ t,toV (stepOf ed) p.x ev = t := ⟨_,rfl⟩
          obtain ⟨ty,hty⟩ : ∃ t,toV (stepOf es) p.y ev = t := ⟨_,rfl⟩
          obtain ⟨tz,htz⟩ : ∃ t,posK (prsOf l) (tx,ty) = t := ⟨_,rfl⟩
          have HTX := Lib.hid htx
          have HTY := Lib.hid hty
          have HTZ := Lib.hid htz
          have HNX : Hid (nxP ⟨al,n,mr,ed⟩ ⟨bl,k,ms,es⟩ l i ev = tz) := by
           unfold nxP
           rw [Hid,HGP.out,← htz,← htx,← hty]
           rfl
          have hcz := posK_cases (prsOf l) (tx,ty)
          rw [htz] at hcz
          clear htx hty htz hev
          go_upto_region 13 with fail
          refine wp_world (fun V => Sep w.heap.size w [eBlk nb 35 [.slice (some ⟨gL,oL,none⟩) ul.length cL,.int .i64 ((raw.length : Nat) : Int),v2,v3],eInts (mkP ⟨al,n,mr,ed⟩ ⟨bl,k,ms,es⟩ ch l (i + 1)) v2,eEds (rowsG ul (nxP ⟨al,n,mr,ed⟩ ⟨bl,k,ms,es⟩ l) i ++ rowG (ul.take t) i (nxP ⟨al,n,mr,ed⟩ ⟨bl,k,ms,es⟩ l i)) v3,eInts ul (.slice (some ⟨gL,oL,none⟩) ul.length cL),eWds fs raw l,eOwn PrV.cells 3 82 raw (.slice (some ⟨gR,oR,none⟩) raw.length cR),eBlk (w.heap.size + 2) 35 [.slice none 0 0,.int .i64 0,.slice none 0 0,.slice none 0 0],eBlk (w.heap.size + 1) 35 [.slice B1 bl.length d1,.int .i64 k,.slice B2 ms.length d2,.slice B3 es.length d3],eBlk w.heap.size 35 [.slice A1 al.length c1,.int .i64 n,.slice A2 mr.length c2,.slice A3 ed.length c3]] V) S.out fun W12 S' => ?_
          have S12 := Lib.hid S'
          clear S' S o0 ce
          go_cut [14] (fun x wx => x = .int .i64 tz ∧ Hid (Sep w.heap.size w [eBlk nb 35 [.slice (some ⟨gL,oL,none⟩) ul.length cL,.int .i64 ((raw.length : Nat) : Int),v2,v3],eInts (mkP ⟨al,n,mr,ed⟩ ⟨bl,k,ms,es⟩ ch l (i + 1)) v2,eEds (rowsG ul (nxP ⟨al,n,mr,ed⟩ ⟨bl,k,ms,es⟩ l) i ++ rowG (ul.take t) i (nxP ⟨al,n,mr,ed⟩ ⟨bl,k,ms,es⟩ l i)) v3,eInts ul (.slice (some ⟨gL,oL,none⟩) ul.length cL),eWds fs raw l,eOwn PrV.cells 3 82 raw (.slice (some ⟨gR,oR,none⟩) raw.length cR),eBlk (w.heap.size + 2) 35 [.slice none 0 0,.int .i64 0,.slice none 0 0,.slice none 0 0],eBlk (w.heap.size + 1) 35 [.slice B1 bl.length d1,.int .i64 k,.slice B2 ms.length d2,.slice B3 es.length d3],eBlk w.heap.size 35 [.slice A1 al.length c1,.int .i64 n,.slice A2 mr.length c2,.slice A3 ed.length c3]] wx))
          case first =>
           have S4 := Lib.hid S12.out.drew
           refine wp_region_held_drew (S := (fun V => Sep w.heap.size w [eOwn PrV.cells 3 82 raw (.slice (some ⟨gR,oR,none⟩) raw.length cR),eBlk (w.heap.size + 1) 35 [.slice B1 bl.length d1,.int .i64 k,.slice B2 ms.length d2,.slice B3 es.length d3],eBlk w.heap.size 35 [.slice A1 al.length c1,.int .i64 n,.slice A2 mr.length c2,.slice A3 ed.length c3]] V)) (by kernel_rfl) ?_ (fun hHeld => ?_)
           · exact S4.out.pick [5,7,8] (by decide)
           generalize hwz : W12.drew = w4 at *
           clear hwz
           refine tkP 0 rfl (v := ?_) hHeld ?_
           try simp only [sx]
           refine tkH 1 rfl (v := ?_) (by kernel_rfl) ?_ hHeld ?_
           rotate_left
           · intro V hSw
             have a0 := ckC hSw 2 rfl 0 rfl
             have a1 := ckC hSw 2 rfl 1 rfl
             have a2 := ckC hSw 2 rfl 2 rfl
             have a3 := ckC hSw 2 rfl 3 rfl
             clear hSw
             first | (go_simp; done) | (go_simp; with_reducible rfl)
           try simp only [sx]
           refine tkP 2 rfl (v := ?_) hHeld ?_
           try simp only [sx]
           refine tkP 3 rfl (v := ?_) hHeld ?_
           try simp only [sx]
           refine tkP 4 rfl (v := ?_) hHeld ?_
           try simp only [sx]
           refine tkP 5 rfl (v := ?_) hHeld ?_
           try simp only [sx]
           refine tkH 6 rfl (v := ?_) (by kernel_rfl) ?_ hHeld ?_
           rotate_left
           · intro V hSw
             have b0 := (Sep.prAt (show Sep w.heap.size w _ V from hSw) 0 rfl hr).1
             clear hSw
             first | (go_simp; done) | (go_simp; with_reducible rfl)
           try simp only [sx]
           refine tkP 7 rfl (v := ?_) hHeld ?_
           try simp only [sx]
           refine tkH 9 rfl (v := ?_) (by kernel_rfl) ?_ hHeld ?_
           rotate_left
           · intro V hSw
             have b0 := ckC hSw 1 rfl 0 rfl
             have b1 := ckC hSw 1 rfl 1 rfl
             have b2 := ckC hSw 1 rfl 2 rfl
             have b3 := ckC hSw 1 rfl 3 rfl
             clear hSw
             first | (go_simp; done) | (go_simp; with_reducible rfl)
           try simp only [sx]
           refine tkP 10 rfl (v := ?_) hHeld ?_
           try simp only [sx]
           refine tkP 11 rfl (v := ?_) hHeld ?_
           try simp only [sx]
           refine tkP 12 rfl (v := ?_) hHeld ?_
           try simp only [sx]
           refine tkP 13 rfl (v := ?_) hHeld ?_
           try simp only [sx]
           refine tkH 14 rfl (v := ?_) (by kernel_rfl) ?_ hHeld ?_
           rotate_left
           · intro V hSw
             have b1 := (Sep.prAt (show Sep w.heap.size w _ V from hSw) 0 rfl hr).2.1
             clear hSw
             first | (go_simp; done) | (go_simp; with_reducible rfl)
           try simp only [sx]
           refine tkP 15 rfl (v := ?_) hHeld ?_
           try simp only [sx]
           refine rdH 8 rfl fun K hK => ?_
           go_simp
           refine (step9_e ⟨al,n,mr,ed⟩ ⟨A1,c1,A2,c2,A3,c3⟩ p.x ev tx w4 HRA.out (HA.out.below S4.out.below).ed HA.out.led HTX.out).mono ?_
           rintro e w5 ⟨rfl,hb⟩
           have S5 := Lib.hid (S4.out.next hb)
           clear hb
           refine hK.out _ _ ?_ (fun hHeld => ?_)
           · exact S5.out.pick [5,7,8] (by decide)
           clear hK K
           try simp only [sx]
           refine rdH 16 rfl fun K hK => ?_
           go_simp
           refine (step9_e ⟨bl,k,ms,es⟩ ⟨B1,d1,B2,d2,B3,d3⟩ p.y ev ty w5 HRB.out (HB.out.below S5.out.below).ed HB.out.led HTY.out).mono ?_
           rintro e w6 ⟨rfl,hb⟩
           have S6 := Lib.hid (S5.out.next hb)
           clear hb
           refine hK.out _ _ ?_ (fun hHeld => ?_)
           · exact S6.out.pick [5,7,8] (by decide)
           clear hK K
           try simp only [sx]
           refine rdH 17 rfl fun K hK => ?_
           go_simp
           refine (find9_e (some ⟨gR,oR,none⟩) cR raw l tx ty tz w6 S6.out 4 5 rfl rfl HND.out HLW.out hlen HTZ.out).mono ?_
           rintro e' w7 ⟨rfl,he⟩
           have S7 : Hid (Sep w.heap.size w [eBlk nb 35 [.slice (some ⟨gL,oL,none⟩) ul.length cL,.int .i64 ((raw.length : Nat) : Int),v2,v3],eInts (mkP ⟨al,n,mr,ed⟩ ⟨bl,k,ms,es⟩ ch l (i + 1)) v2,eEds (rowsG ul (nxP ⟨al,n,mr,ed⟩ ⟨bl,k,ms,es⟩ l) i ++ rowG (ul.take t) i (nxP ⟨al,n,mr,ed⟩ ⟨bl,k,ms,es⟩ l i)) v3,eInts ul (.slice (some ⟨gL,oL,none⟩) ul.length cL),eWds fs raw l,eOwn PrV.cells 3 82 raw (.slice (some ⟨gR,oR,none⟩) raw.length cR),eBlk (w.heap.size + 2) 35 [.slice none 0 0,.int .i64 0,.slice none 0 0,.slice none 0 0],eBlk (w.heap.size + 1) 35 [.slice B1 bl.length d1,.int .i64 k,.slice B2 ms.length d2,.slice B3 es.length d3],eBlk w.heap.size 35 [.slice A1 al.length c1,.int .i64 n,.slice A2 mr.length c2,.slice A3 ed.length c3]] w7) := he ▸ S6.out
           clear he
           refine hK.out _ _ ?_ (fun hHeld => ?_)
           · exact S7.out.pick [5,7,8] (by decide)
           clear hK K
           try simp only [sx]
           refine tkP 18 rfl (v := ?_) hHeld ?_
           try simp only [sx]
           refine wpAnyH_done (by kernel_rfl) ?_ _
           go_wp2_with fail
           go_meet
           exact ⟨rfl,S7.out⟩
          case rest =>
           clear S12
           obtain ⟨rfl,S⟩ := hcut
           by_cases hz0 : 0 ≤ tz
           · have hq : decide (tz ≥ 0) = true := by simpa using hz0
             have HROW0 : Hid (rowG (ul.take (t + 1)) i (nxP ⟨al,n,mr,ed⟩ ⟨bl,k,ms,es⟩ l i) = rowG (ul.take t) i (nxP ⟨al,n,mr,ed⟩ ⟨bl,k,ms,es⟩ l i) ++ [⟨(i : Int),ev,tz⟩]) := by
              rw [Hid,HT.out,rowG_yes _ _ _ _ (by rw [HNX.out]; exact hz0),HNX.out]
             obtain ⟨EL,hEL⟩ : ∃ EL,rowsG ul (nxP ⟨al,n,mr,ed⟩ ⟨bl,k,ms,es⟩ l) i ++ rowG (ul.take t) i (nxP ⟨al,n,mr,ed⟩ ⟨bl,k,ms,es⟩ l i) = EL := ⟨_,rfl⟩
             have hel2 : EL.length ≤ 1048576 := by
              rw [← hEL,List.length_append]
              have h1 := rowsG_len ul (nxP ⟨al,n,mr,ed⟩ ⟨bl,k,ms,es⟩ l) i
              have h2 := rowG_len (ul.take t) i (nxP ⟨al,n,mr,ed⟩ ⟨bl,k,ms,es⟩ l i)
              have h3 : i * ul.length ≤ 4096 * 32 := Nat.mul_le_mul (by omega) hul
              have h4 : (ul.take t).length ≤ 32 := by rw [List.length_take]; omega
              omega
             rw [hEL] at S
             have HROW : Hid (rowsG ul (nxP ⟨al,n,mr,ed⟩ ⟨bl,k,ms,es⟩ l) i ++ rowG (ul.take (t + 1)) i (nxP ⟨al,n,mr,ed⟩ ⟨bl,k,ms,es⟩ l i) = EL ++ [⟨(i : Int),ev,tz⟩]) := by rw [Hid,HROW0.out,← List.append_assoc,hEL]
             have q3 := ckC S.out 0 rfl 3 rfl
             clear HROW0 hEL
             go_wp2_with (at_builtin; refine wpList_pushS rfl _ _ 33 rfl (S.out.alloc 87 [.int .i64 (i : Int),.int .i64 ev,.int .i64 tz]) 3 rfl Tryd.underlying33 _ 24 edInfo rfl (by decide) rfl ⟨(i : Int),ev,tz⟩ _ rfl rfl (fun j u hj => (BlkAt.cell ((S.out.alloc 87 [.int .i64 (i : Int),.int .i64 ev,.int .i64 tz]).get 0 rfl) j).trans hj) (edOne _) hel2 (by decide) ?_)
             intro A5 c5 w6 S9 _
             have S10 := Lib.hid S9.drop1
             have u3 := ckC S10.out 0 rfl 3 rfl
             have f3 := BlkAt.free (S10.out.get 0 rfl) 3
             have S11 := Lib.hid (S10.out.set 0 rfl 3 (.slice A5 (EL.length + 1) c5))
             clear S S9 S10 q3
             go_wp2_with fail
             go_roundw
             case rel => exact ⟨t + 1,.slice A5 (EL.length + 1) c5,by go_num,by omega,by rw [HROW.out]; exact S11.out⟩
             case measure => simp [intOf]; omega
           · have hq : decide (tz ≥ 0) = false := by simpa using hz0
             have HROW : Hid (rowG (ul.take (t + 1)) i (nxP ⟨al,n,mr,ed⟩ ⟨bl,k,ms,es⟩ l i) = rowG (ul.take t) i (nxP ⟨al,n,mr,ed⟩ ⟨bl,k,ms,es⟩ l i)) := by
              rw [Hid,HT.out,rowG_no _ _ _ _ (by rw [HNX.out]; exact hz0)]
             go_wp2_with fail
             go_roundw
             case rel => exact ⟨t + 1,v3,by go_num,by omega,by rw [HROW.out]; exact S.out⟩
             case measure => simp [intOf]; omega
        · obtain rfl : t = ul.length := by omega
          have S3 : Hid (Sep w.heap.size w [eBlk nb 35 [.slice AL ul.length cL,.int .i64 ((raw.length : Nat) : Int),v2,v3],eInts (mkP ⟨al,n,mr,ed⟩ ⟨bl,k,ms,es⟩ ch l (i + 1)) v2,eEds (rowsG ul (nxP ⟨al,n,mr,ed⟩ ⟨bl,k,ms,es⟩ l) (i + 1)) v3,eInts ul (.slice AL ul.length cL),eWds fs raw l,eOwn PrV.cells 3 82 raw (.slice (some ⟨gR,oR,none⟩) raw.length cR),eBlk (w.heap.size + 2) 35 [.slice none 0 0,.int .i64 0,.slice none 0 0,.slice none 0 0],eBlk (w.heap.size + 1) 35 [.slice B1 bl.length d1,.int .i64 k,.slice B2 ms.length d2,.slice B3 es.length d3],eBlk w.heap.size 35 [.slice A1 al.length c1,.int .i64 n,.slice A2 mr.length c2,.slice A3 ed.length c3]] wr) := by
           have h := S.out
           rw [List.take_length,← rowsG_succ] at h
           exact h
          clear S
          go_wp2_with fail
          go_roundw
          case rel => exact ⟨i + 1,v2,v3,by go_num,by omega,S3.out⟩
          case measure => simp [intOf]; omega
  · obtain rfl : i = raw.length := by omega
    obtain ⟨AM,cM,rfl⟩ := S.out.form 1 rfl
    obtain ⟨AE,cE,rfl⟩ := S.out.form 2 rfl
    have QA : Hid (Au.At wr (combV ⟨al,n,mr,ed⟩ ⟨bl,k,ms,es⟩ ch l) ⟨AL,cL,AM,cM,AE,cE⟩) := by
     have h := S.out
     rw [hrl.out] at h
     have hu := HUE.out
     subst hu
     have h1 := mkP_len ⟨al,n,mr,ed⟩ ⟨bl,k,ms,es⟩ ch l l.length
     have h2 := rowsG_len (unionV al bl) (nxP ⟨al,n,mr,ed⟩ ⟨bl,k,ms,es⟩ l) l.length
     have h3 := hrl.out
     have h4 : l.length * (unionV al bl).length ≤ 4096 * 32 := Nat.mul_le_mul (by omega) hul
     exact ⟨h.ints 3 rfl,h.ints 1 rfl,h.eds 2 rfl,Nat.le_trans hul (by decide),Nat.le_trans h1 (by omega),Nat.le_trans h2 (Nat.le_trans h4 (by decide))⟩
    have b0 := ckC S.out 0 rfl 0 rfl
    have b1 := ckC S.out 0 rfl 1 rfl
    have b2 := ckC S.out 0 rfl 2 rfl
    have b3 := ckC S.out 0 rfl 3 rfl
    have CAN : Hid (Calls Tryd.prog 26 #[.agg #[.slice AL ul.length cL,.int .i64 ((raw.length : Nat) : Int),.slice AM (mkP ⟨al,n,mr,ed⟩ ⟨bl,k,ms,es⟩ ch l raw.length).length cM,.slice AE (rowsG ul (nxP ⟨al,n,mr,ed⟩ ⟨bl,k,ms,es⟩ l) raw.length).length cE]] wr (GivesMn (unionV al bl) (fun u => rn (combV ⟨al,n,mr,ed⟩ ⟨bl,k,ms,es⟩ ch l) u ∈ (combV ⟨al,n,mr,ed⟩ ⟨bl,k,ms,es⟩ ch l).mr) wr)) := by
     have h := minimal9_c (combV ⟨al,n,mr,ed⟩ ⟨bl,k,ms,es⟩ ch l) ⟨AL,cL,AM,cM,AE,cE⟩ wr RT.out QA.out HALN.out
     rw [hrl.out,← HUE.out]
     exact h
    clear QA
    go_wp2_with fail
    refine CAN.out.mono ?_
    rintro e w5 ⟨mc,p5,rfl,T,HLN,MN0,hal5⟩
    have HAL5 := Lib.hid hal5
    have MN : Hid (IsMin mc (CoL ⟨al,n,mr,ed⟩ ⟨bl,k,ms,es⟩ ch)) := MN0.out.congr LG.out
    have S5 : Hid (Sep w.heap.size w (eAu mc p5 ++ [eBlk (w.heap.size + 2) 35 [.slice none 0 0,.int .i64 0,.slice none 0 0,.slice none 0 0]]) w5) := (S.out.pick [6] (by decide)).news T.out
    clear T S CAN MN0 hal5 b0 b1 b2 b3
    dsimp only [Au.val]
    have SZ : Hid (Sep w.heap.size w [eInts mc.al (.slice p5.A1 mc.al.length p5.c1),eInts mc.mr (.slice p5.A2 mc.mr.length p5.c2),eEds mc.ed (.slice p5.A3 mc.ed.length p5.c3),eBlk (w.heap.size + 2) 35 [.slice p5.A1 mc.al.length p5.c1,.int .i64 mc.n,.slice p5.A2 mc.mr.length p5.c2,.slice p5.A3 mc.ed.length p5.c3]] _) := ((((S5.out.set 3 rfl 0 (.slice p5.A1 mc.al.length p5.c1)).set 3 rfl 1 (.int .i64 mc.n)).set 3 rfl 2 (.slice p5.A2 mc.mr.length p5.c2)).set 3 rfl 3 (.slice p5.A3 mc.ed.length p5.c3))
    have r0 := ckC S5.out 3 rfl 0 rfl
    have r1 := ckC S5.out 3 rfl 1 rfl
    have r2 := ckC S5.out 3 rfl 2 rfl
    have r3 := ckC S5.out 3 rfl 3 rfl
    have f0 := BlkAt.free (S5.out.get 3 rfl) 0
    have f1 := BlkAt.free (S5.out.get 3 rfl) 1
    have f2 := BlkAt.free (S5.out.get 3 rfl) 2
    have f3 := BlkAt.free (S5.out.get 3 rfl) 3
    have t0 := ckC SZ.out 3 rfl 0 rfl
    have t1 := ckC SZ.out 3 rfl 1 rfl
    have t2 := ckC SZ.out 3 rfl 2 rfl
    have t3 := ckC SZ.out 3 rfl 3 rfl
    have SY : Hid (Sep w.heap.size w (eAu mc p5) _) := SZ.out.pick [0,1,2] (by decide)
    go_wp2_with fail
    refine bodyPost_ret (v := .agg #[.slice p5.A1 mc.al.length p5.c1,.int .i64 mc.n,.slice p5.A2 mc.mr.length p5.c2,.slice p5.A3 mc.ed.length p5.c3]) (by simp [results,Tryd.results20,go_sem, *]) rfl ?_
    exact ⟨mc,p5,rfl,SY.out,HLN.out,MN.out,HAL5.out⟩
set_option maxHeartbeats 1000000 in
theorem sameI3_c (A1 A2 : Option Addr) (c1 c2 : Nat) (l : List Int) (w : World) (h1 : IntsAt w A1 l) (h2 : IntsAt w A2 l) (n1 : l.length ≤ 140737488355328) :
 Calls Tryd.prog 53 #[.slice A1 l.length c1,.slice A2 l.length c2] w (Ret (.bool true) w) := by
 have H1 := Lib.hid h1
 have H2 := Lib.hid h2
 clear h1 h2
 go_enter Tryd.func53,Tryd.ntmps53
 go_wp2
 go_loopw [5] (fun i wr => ∃ k : Nat,k ≤ l.length ∧ i = .int .i64 k ∧ Hid (Below w.heap.size w wr)) (fun i _ => l.length - (intOf i).toNat)
 case atStart => exact ⟨0,by omega,rfl,Below.refl _ _⟩
 case round =>
  obtain ⟨k,hk,rfl,BW⟩ := hrel
  by_cases hlt : k < l.length
  · obtain ⟨b,off,x,rfl,hb,hx,e0⟩ := IntsAt.at (H1.out.below IntE.stays BW.out) hlt
    obtain ⟨b2,off2,y,rfl,hb2,hy,g0⟩ := IntsAt.at (H2.out.below IntE.stays BW.out) hlt
    obtain rfl : x = y := Option.some.inj (hx.symm.trans hy)
    clear hx hy
    go_wp2_with fail
    go_quiet (fail)
    go_wp2
    go_roundw
    case rel => exact ⟨k + 1,by omega,by go_num,BW.out.draws _⟩
    case measure => simp [intOf]; omega
  · obtain rfl : k = l.length := by omega
    go_wp2
    go_ret
    exact ⟨rfl,BW.out⟩
set_option maxHeartbeats 4000000 in
theorem same3_c (a : Au) (p q : AuP) (w : World) (hA : Au.At w a p) (hB : Au.At w a q) :
 Calls Tryd.prog 25 #[a.val p,a.val q] w (Ret (.bool true) w) := by
 have HA := Lib.hid hA
 have HB := Lib.hid hB
 obtain ⟨al,n,mr,ed⟩ := a
 obtain ⟨A1,c1,A2,c2,A3,c3⟩ := p
 obtain ⟨B1,d1,B2,d2,B3,d3⟩ := q
 try dsimp only [Au.val] at *
 have hal := hA.lal
 have hml := hA.lmk
 have hel := hA.led
 dsimp only at hal hml hel
 clear hA hB
 have q0 : Hid (BlkAt ((w.alloc (.cells #[.slice A1 al.length c1,.int .i64 n,.slice A2 mr.length c2,.slice A3 ed.length c3] 35)).alloc (.cells #[.slice B1 al.length d1,.int .i64 n,.slice B2 mr.length d2,.slice B3 ed.length d3] 35)) w.heap.size 35 [.slice A1 al.length c1,.int .i64 n,.slice A2 mr.length c2,.slice A3 ed.length c3]) := (BlkAt.new w _ [_,_,_,_]).alloc _
 have q1 : Hid (BlkAt ((w.alloc (.cells #[.slice A1 al.length c1,.int .i64 n,.slice A2 mr.length c2,.slice A3 ed.length c3] 35)).alloc (.cells #[.slice B1 al.length d1,.int .i64 n,.slice B2 mr.length d2,.slice B3 ed.length d3] 35)) (w.heap.size + 1) 35 [.slice B1 al.length d1,.int .i64 n,.slice B2 mr.length d2,.slice B3 ed.length d3]) := by
  have := BlkAt.new (w.alloc (.cells #[.slice A1 al.length c1,.int .i64 n,.slice A2 mr.length c2,.slice A3 ed.length c3] 35)) 35 [.slice B1 al.length d1,.int .i64 n,.slice B2 mr.length d2,.slice B3 ed.length d3]
  simpa [Hid] using this
 have B0 : Hid (Fro w.heap.size w ((w.alloc (.cells #[.slice A1 al.length c1,.int .i64 n,.slice A2 mr.length c2,.slice A3 ed.length c3] 35)).alloc (.cells #[.slice B1 al.length d1,.int .i64 n,.slice B2 mr.length d2,.slice B3 ed.length d3] 35))) := ((Fro.here w).alloc _).alloc _
 go_enter Tryd.func25,Tryd.ntmps25
 go_upto_region 1 with fail
 generalize hW : ((w.alloc (.cells #[.slice A1 al.length c1,.int .i64 n,.slice A2 mr.length c2,.slice A3 ed.length c3] 35)).alloc (.cells #[.slice B1 al.length d1,.int .i64 n,.slice B2 mr.length d2,.slice B3 ed.length d3] 35)) = W at *
 clear hW
 have a0 := q0.out.cell 0
 have a1 := q0.out.cell 1
 have a2 := q0.out.cell 2
 have a3 := q0.out.cell 3
 have b0 := q1.out.cell 0
 have b1 := q1.out.cell 1
 have b2 := q1.out.cell 2
 have b3 := q1.out.cell 3
 simp only [List.getElem?_cons_succ,List.getElem?_cons_zero] at a0 a1 a2 a3 b0 b1 b2 b3
 have hnn : (n != n) = false := by simp
 have hne : (n == n) = true := by simp
 have hee : ((ed.length : Int) != (ed.length : Int)) = false := by simp
 go_wp2_with fail
 refine (sameI3_c A1 B1 c1 d1 al W (HA.out.below B0.out.b).al (HB.out.below B0.out.b).al hal).mono ?_
 rintro e W1 ⟨rfl,hb⟩
 have Q0 := Lib.hid (q0.out.below hb q0.out.lt)
 have Q1 := Lib.hid (q1.out.below hb q1.out.lt)
 have B1' := Lib.hid (B0.out.next hb)
 clear q0 q1 B0 hb a0 a1 a2 a3 b0 b1 b2 b3
 have a1 := Q0.out.cell 1
 have a2 := Q0.out.cell 2
 have a3 := Q0.out.cell 3
 have b1 := Q1.out.cell 1
 have b2 := Q1.out.cell 2
 have b3 := Q1.out.cell 3
 simp only [List.getElem?_cons_succ,List.getElem?_cons_zero] at a1 a2 a3 b1 b2 b3
 go_wp2_with fail
 refine (sameI3_c A2 B2 c2 d2 mr W1 (HA.out.below B1'.out.b).mr (HB.out.below B1'.out.b).mr hml).mono ?_
 rintro e W2 ⟨rfl,hb⟩
 have R0 := Lib.hid (Q0.out.below hb Q0.out.lt)
 have R1 := Lib.hid (Q1.out.below hb Q1.out.lt)
 have B2' := Lib.hid (B1'.out.next hb)
 clear Q0 Q1 B1' hb a1 a2 a3 b1 b2 b3
 have a3 := R0.out.cell 3
 have b3 := R1.out.cell 3
 simp only [List.getElem?_cons_succ,List.getElem?_cons_zero] at a3 b3
 go_wp2_with fail
 go_loopw [5] (fun i wr => ∃ k : Nat,k ≤ ed.length ∧ i = .int .i64 k ∧ Hid (Below W2.heap.size W2 wr)) (fun i _ => ed.length - (intOf i).toNat)
 case atStart => exact ⟨0,by omega,rfl,Below.refl _ _⟩
 case round =>
  obtain ⟨k,hk,rfl,BW⟩ := hrel
  have S0 := Lib.hid (R0.out.below BW.out R0.out.lt)
  have S1 := Lib.hid (R1.out.below BW.out R1.out.lt)
  clear a3 b3
  have a3 := S0.out.cell 3
  have b3 := S1.out.cell 3
  simp only [List.getElem?_cons_succ,List.getElem?_cons_zero] at a3 b3
  have BF := Lib.hid (B2'.out.next BW.out)
  by_cases hlt : k < ed.length
  · obtain ⟨b,off,x,rfl,hb,hx,e0,e1,e2⟩ := EdsAt.at (HA.out.below BF.out.b).ed hlt
    obtain ⟨b2,off2,y,rfl,hb2,hy,g0,g1,g2⟩ := EdsAt.at (HB.out.below BF.out.b).ed hlt
    obtain rfl : x = y := Option.some.inj (hx.symm.trans hy)
    clear hx hy
    obtain ⟨x1,x2,x3⟩ := x
    dsimp only at e0 e1 e2 g0 g1 g2
    go_wp2_with fail
    go_quiet (fail)
    go_wp2
    go_roundw
    case rel => exact ⟨k + 1,by omega,by go_num,BW.out.draws _⟩
    case measure => simp [intOf]; omega
  · obtain rfl : k = ed.length := by omega
    go_wp2
    go_ret
    exact ⟨rfl,BF.out.b⟩
theorem AuE.one (T : TypeId) (a : Au) (p : AuP) (w : World) (ha : Au.At w a p) : SlAt AuE 4 (w.alloc (.cells (auCells a p).toArray T)) (some ⟨w.heap.size,0,none⟩) [a] := by
 intro _
 have hB := Below.new w (.cells (auCells a p).toArray T)
 refine ⟨w.heap.size,0,rfl,by simp,?_⟩
 intro i x hx
 match i,hx with
 | 0,hx =>
   obtain rfl : a = x := by simpa using hx
   refine ⟨auCells a p,rfl,⟨p,rfl,ha.below hB⟩,fun j v hj => ?_⟩
   refine (new_cell w T _ _ _ rfl).trans ?_
   simp only [Nat.zero_mul,Nat.zero_add]
   exact hj
def GivesLe (a : Au) (kind : Int) (w : World) (e : Ending) (w' : World) : Prop := ∃ (A : Option Addr) (c : Nat) (l : List Int) (f : Bool),e = .returned (.tuple #[.slice A l.length c,.bool f,.int .i64 0]) ∧ Hid (IntsAt w' A l) ∧ Below w.heap.size w w' ∧
 Hid (f = true ∧ LeastW (LeadsTo (stp2 a Au.zero) (a.st,Au.zero.st) a.al (fun q => (fun q : Int × Int => inV a q.1 kind) q = true)) l ∨ f = false ∧ l = [] ∧ ∀ u,¬ LeadsTo (stp2 a Au.zero) (a.st,Au.zero.st) a.al (fun q => (fun q : Int × Int => inV a q.1 kind) q = true) u)
def GivesEy (a : Au) (kind : Int) (w : World) (e : Ending) (w' : World) : Prop := ∃ b : Bool,e = .returned (.tuple #[.bool b,.int .i64 0]) ∧ Below w.heap.size w w' ∧ Hid (b = true ↔ ∀ u,¬ LeadsTo (stp2 a Au.zero) (a.st,Au.zero.st) a.al (fun q => (fun q : Int × Int => inV a q.1 kind) q = true) u)
theorem compl_uniq {a c m : Au} (ha : a.Right) (hc : IsMin c (CoL a Au.zero (fun x _ => !x))) (hca : c.al = unionV a.al Au.zero.al) (hm : IsMin m (CoL (allV a.al) a (fun x y => x && !y))) (hma : m.al = unionV (allV a.al).al a.al) : c = m := by
 have hi := ha.al.incr
 rw [show Au.zero.al = [] from rfl,union_nil hi] at hca
 rw [show (allV a.al).al = a.al from rfl,union_same hi] at hma
 refine hc.uniq (hm.congr fun w => ?_) (hca.trans hma.symm)
 rw [CoL.comp hi]
 unfold CoL
 rw [show (allV a.al).al = a.al from rfl,union_same hi]
 refine and_congr_right fun hw => ?_
 rw [rn_all ha.al w hw]
 have h0 : (0 : Int) ∈ (allV a.al).mr := by simp [allV]
 simp [h0]
theorem back_uniq {a b c m : Au} (ha : a.Right) (hc : IsMin c (CoL a Au.zero (fun x _ => !x))) (hca : c.al = unionV a.al Au.zero.al) (hb : IsMin b (CoL c Au.zero (fun x _ => !x))) (hba : b.al = unionV c.al Au.zero.al) (hm : IsMin m (fun u => rn a u ∈ a.mr)) (hma : m.al = a.al) : b = m := by
 have hi := ha.al.incr
 rw [show Au.zero.al = [] from rfl,union_nil hi] at hca
 rw [show Au.zero.al = [] from rfl,union_nil (by rw [hca]; exact hi),hca] at hba
 refine hb.uniq (hm.congr fun w => ?_) (hba.trans hma.symm)
 rw [CoL.comp (by rw [hca]; exact hi),hca,hc.lang,CoL.comp hi]
 constructor
 · intro h
   exact ⟨rn_over ha w (ha.mem h).1,fun g => g.2 h⟩
 · rintro ⟨h1,h2⟩
   exact Classical.not_not.1 fun h => h2 ⟨h1,h⟩
set_option maxHeartbeats 16000000 in
theorem lawCompl_c (s0 : Int) (g0 : Gr) (w : World) (h0 : 0 ≤ s0 ∧ s0 < 256) (hg0 : g0.Ok) (ht : TabW w) :
 Calls Tryd.prog 6 #[.int .u8 s0,g0.val] w (Ret (.bool true) w) := by
 have H0 := Lib.hid h0
 have HG0 := Lib.hid hg0
 have HTAB := Lib.hid ht
 clear h0 hg0 ht
 go_enter Tryd.func6,Tryd.ntmps6
 generalize hcs : g0.cells = cs
 go_upto_region 1 with fail
 refine wp_world (fun W => Sep w.heap.size w [eBlk w.heap.size 27 cs] W) ?_ fun W S => ?_
 · exact (Sep.here w).alloc' _ cs rfl rfl
 rw [← hcs] at S
 have SA := Lib.hid S
 clear S hcs
 go_wp2_with fail
 refine (known_c W (HTAB.out.below SA.out.below)).mono ?_
 rintro e w1 ⟨rfl,hb⟩
 have SB := Lib.hid (SA.out.next hb)
 clear hb SA
 go_upto_region 3 with fail
 go_cut [5] (fun v wx => ∃ (a : Au) (p : AuP) (ta : Nat),v = .pointer (some ⟨ta,0,none⟩) ∧ Hid (Gd s0 a) ∧ Hid (Sep w.heap.size w [eBox ta a p] wx))
 case first =>
  have S1 := Lib.hid SB.out.drew
  refine wp_region_held_drew (S := (fun V => Sep w.heap.size w [eBlk w.heap.size 27 g0.cells] V)) (by kernel_rfl) ?_ (fun hHeld => ?_)
  · exact S1.out.pick [0] (by decide)
  generalize hwz : w1.drew = w1 at *
  clear hwz
  refine tkP 0 rfl (v := ?_) hHeld ?_
  try simp only [sx]
  refine wpAnyH_take (i := 2) (v := _) rfl (by kernel_rfl) (by kernel_rfl) (by kernel_rfl) (fun _ _ _ h => h) (yieldsIf_load_mid (by kernel_rfl) 27 (.tmp 3) rfl w.heap.size 0 rfl g0.cells _ (fun V hSw => BlkAt.rng (Sep.get (show Sep w.heap.size w _ V from hSw) 0 rfl) (fun j v hv => by rw [Nat.zero_add]; exact hv)) Tryd.underlying27 rfl (by kernel_rfl)) hHeld ?_
  try simp only [sx]
  refine wpAnyH_ready (rs := [1,4]) (by kernel_rfl) (by simp) ?_
  refine AllReadyH.cons rfl (fun K hK => ?_) (AllReadyH.cons rfl (fun K hK => ?_) AllReadyH.nil)
  · skip
    go_simp
    refine (events_c s0 w1 H0.out.1 H0.out.2).mono ?_
    rintro e w2 ⟨v,rfl,O,hb⟩
    obtain ⟨AE,cE,rfl⟩ := Own.form O.out
    have S2 : Hid (Sep w.heap.size w [eInts (evV s0 5) (.slice AE (evV s0 5).length cE),eBlk w.heap.size 27 g0.cells] w2) := S1.out.newI O.out hb
    clear O hb
    refine hK.out _ _ ?_ (fun hHeld => ?_)
    · exact S2.out.pick [1] (by decide)
    clear hK K
    try simp only [sx]
    refine wpAnyH_ready (rs := [3,4]) (by kernel_rfl) (by simp) ?_
    refine AllReadyH.cons rfl (fun K hK => ?_) (AllReadyH.cons rfl (fun K hK => ?_) AllReadyH.nil)
    · skip
      go_simp
      refine (make3_c AE cE (evV s0 5) g0 w2 (S2.out.ints 0 rfl) (evV_lt5 s0 5) (fun e => Own.none (S2.out.get 0 rfl) e) HG0.out).mono ?_
      rintro e w3 ⟨a,p,rfl,hr,ha,hn,hed,hmr,HAO,hb⟩
      have FA : Hid (Gd s0 a) := ⟨hr,ha,hn,hed,hmr⟩
      have S3 : Hid (Sep w.heap.size w [eInts a.al (.slice p.A1 a.al.length p.c1),eInts a.mr (.slice p.A2 a.mr.length p.c2),eEds a.ed (.slice p.A3 a.ed.length p.c3),eInts (evV s0 5) (.slice AE (evV s0 5).length cE),eBlk w.heap.size 27 g0.cells] w3) := S2.out.news (AuOwn.sep HAO.out hb)
      clear HAO hb hr ha hn hed hmr
      refine hK.out _ _ ?_ (fun hHeld => ?_)
      · exact S3.out.pick [4] (by decide)
      clear hK K
      try simp only [sx]
      refine rdH 4 rfl fun K hK => ?_
      go_simp
      obtain ⟨ntb,hntb⟩ : ∃ n,n = w3.heap.size := ⟨_,rfl⟩
      obtain ⟨w4,hw4⟩ : ∃ v,v = w3.alloc (.cells #[.slice none 0 0,.int .i64 0,.slice none 0 0,.slice none 0 0] 35) := ⟨_,rfl⟩
      rw [← hw4,← hntb]
      have S4 := ckA S3.out hw4 hntb
      skip
      clear hw4 hntb
      refine hK.out _ _ ?_ (fun hHeld => ?_)
      · exact S4.out.pick [5] (by decide)
      clear hK K
      try simp only [sx]
      refine rdH 5 rfl fun K hK => ?_
      have sc0 := ckC S4.out 0 rfl 0 rfl
      have sf0 := BlkAt.free (S4.out.get 0 rfl) 0
      have sc1 := ckC S4.out 0 rfl 1 rfl
      have sf1 := BlkAt.free (S4.out.get 0 rfl) 1
      have sc2 := ckC S4.out 0 rfl 2 rfl
      have sf2 := BlkAt.free (S4.out.get 0 rfl) 2
      have sc3 := ckC S4.out 0 rfl 3 rfl
      have sf3 := BlkAt.free (S4.out.get 0 rfl) 3
      try dsimp only [Au.val] at *
      go_simp
      obtain ⟨w5,hw5⟩ : ∃ v,v = ((((w4.setCell ⟨ntb,0,none⟩ (.slice p.A1 a.al.length p.c1)).setCell ⟨ntb,1,none⟩ (.int .i64 a.n)).setCell ⟨ntb,2,none⟩ (.slice p.A2 a.mr.length p.c2)).setCell ⟨ntb,3,none⟩ (.slice p.A3 a.ed.length p.c3)) := ⟨_,rfl⟩
      rw [← hw5]
      have S5 : Hid (Sep w.heap.size w [eBlk ntb 35 [.slice p.A1 a.al.length p.c1,.int .i64 a.n,.slice p.A2 a.mr.length p.c2,.slice p.A3 a.ed.length p.c3],eInts a.al (.slice p.A1 a.al.length p.c1),eInts a.mr (.slice p.A2 a.mr.length p.c2),eEds a.ed (.slice p.A3 a.ed.length p.c3),eInts (evV s0 5) (.slice AE (evV s0 5).length cE),eBlk w.heap.size 27 g0.cells] w5) := by rw [hw5]; exact ((((S4.out.set 0 rfl 0 (.slice p.A1 a.al.length p.c1)).set 0 rfl 1 (.int .i64 a.n)).set 0 rfl 2 (.slice p.A2 a.mr.length p.c2)).set 0 rfl 3 (.slice p.A3 a.ed.length p.c3))
      clear hw5 sc0 sf0 sc1 sf1 sc2 sf2 sc3 sf3
      refine hK.out _ _ ?_ (fun hHeld => ?_)
      · exact S5.out.pick [5] (by decide)
      clear hK K
      try simp only [sx]
      refine wpAnyH_done (by kernel_rfl) ?_ _
      have Q1 : Sep w.heap.size w [eBlk ntb 35 [.slice p.A1 a.al.length p.c1,.int .i64 a.n,.slice p.A2 a.mr.length p.c2,.slice p.A3 a.ed.length p.c3],eInts a.al (.slice p.A1 a.al.length p.c1),eInts a.mr (.slice p.A2 a.mr.length p.c2),eEds a.ed (.slice p.A3 a.ed.length p.c3)] w5 := S5.out.pick [0,1,2,3] (by decide)
      have Q2 := Lib.hid Q1.box
      clear Q1
      go_wp2_with fail
      go_meet
      exact ⟨a,p,ntb,rfl,FA.out,Q2.out⟩
    · skip
      go_simp
      obtain ⟨ntb,hntb⟩ : ∃ n,n = w2.heap.size := ⟨_,rfl⟩
      obtain ⟨w6,hw6⟩ : ∃ v,v = w2.alloc (.cells #[.slice none 0 0,.int .i64 0,.slice none 0 0,.slice none 0 0] 35) := ⟨_,rfl⟩
      rw [← hw6,← hntb]
      have S6 := ckA S2.out hw6 hntb
      skip
      clear hw6 hntb
      refine hK.out _ _ ?_ (fun hHeld => ?_)
      · exact S6.out.pick [2] (by decide)
      clear hK K
      try simp only [sx]
      refine rdH 3 rfl fun K hK => ?_
      go_simp
      refine (make3_c AE cE (evV s0 5) g0 w6 (S6.out.ints 1 rfl) (evV_lt5 s0 5) (fun e => Own.none (S6.out.get 1 rfl) e) HG0.out).mono ?_
      rintro e w7 ⟨a,p,rfl,hr,ha,hn,hed,hmr,HAO,hb⟩
      have FA : Hid (Gd s0 a) := ⟨hr,ha,hn,hed,hmr⟩
      have S7 : Hid (Sep w.heap.size w [eInts a.al (.slice p.A1 a.al.length p.c1),eInts a.mr (.slice p.A2 a.mr.length p.c2),eEds a.ed (.slice p.A3 a.ed.length p.c3),eBlk ntb 35 [.slice none 0 0,.int .i64 0,.slice none 0 0,.slice none 0 0],eInts (evV s0 5) (.slice AE (evV s0 5).length cE),eBlk w.heap.size 27 g0.cells] w7) := S6.out.news (AuOwn.sep HAO.out hb)
      clear HAO hb hr ha hn hed hmr
      refine hK.out _ _ ?_ (fun hHeld => ?_)
      · exact S7.out.pick [5] (by decide)
      clear hK K
      try simp only [sx]
      refine rdH 5 rfl fun K hK => ?_
      have sc0 := ckC S7.out 3 rfl 0 rfl
      have sf0 := BlkAt.free (S7.out.get 3 rfl) 0
      have sc1 := ckC S7.out 3 rfl 1 rfl
      have sf1 := BlkAt.free (S7.out.get 3 rfl) 1
      have sc2 := ckC S7.out 3 rfl 2 rfl
      have sf2 := BlkAt.free (S7.out.get 3 rfl) 2
      have sc3 := ckC S7.out 3 rfl 3 rfl
      have sf3 := BlkAt.free (S7.out.get 3 rfl) 3
      try dsimp only [Au.val] at *
      go_simp
      obtain ⟨w8,hw8⟩ : ∃ v,v = ((((w7.setCell ⟨ntb,0,none⟩ (.slice p.A1 a.al.length p.c1)).setCell ⟨ntb,1,none⟩ (.int .i64 a.n)).setCell ⟨ntb,2,none⟩ (.slice p.A2 a.mr.length p.c2)).setCell ⟨ntb,3,none⟩ (.slice p.A3 a.ed.length p.c3)) := ⟨_,rfl⟩
      rw [← hw8]
      have S8 : Hid (Sep w.heap.size w [eInts a.al (.slice p.A1 a.al.length p.c1),eInts a.mr (.slice p.A2 a.mr.length p.c2),eEds a.ed (.slice p.A3 a.ed.length p.c3),eBlk ntb 35 [.slice p.A1 a.al.length p.c1,.int .i64 a.n,.slice p.A2 a.mr.length p.c2,.slice p.A3 a.ed.length p.c3],eInts (evV s0 5) (.slice AE (evV s0 5).length cE),eBlk w.heap.size 27 g0.cells] w8) := by rw [hw8]; exact ((((S7.out.set 3 rfl 0 (.slice p.A1 a.al.length p.c1)).set 3 rfl 1 (.int .i64 a.n)).set 3 rfl 2 (.slice p.A2 a.mr.length p.c2)).set 3 rfl 3 (.slice p.A3 a.ed.length p.c3))
      clear hw8 sc0 sf0 sc1 sf1 sc2 sf2 sc3 sf3
      refine hK.out _ _ ?_ (fun hHeld => ?_)
      · exact S8.out.pick [5] (by decide)
      clear hK K
      try simp only [sx]
      refine wpAnyH_done (by kernel_rfl) ?_ _
      have Q1 : Sep w.heap.size w [eBlk ntb 35 [.slice p.A1 a.al.length p.c1,.int .i64 a.n,.slice p.A2 a.mr.length p.c2,.slice p.A3 a.ed.length p.c3],eInts a.al (.slice p.A1 a.al.length p.c1),eInts a.mr (.slice p.A2 a.mr.length p.c2),eEds a.ed (.slice p.A3 a.ed.length p.c3)] w8 := S8.out.pick [3,0,1,2] (by decide)
      have Q2 := Lib.hid Q1.box
      clear Q1
      go_wp2_with fail
      go_meet
      exact ⟨a,p,ntb,rfl,FA.out,Q2.out⟩
  · skip
    go_simp
    obtain ⟨ntb,hntb⟩ : ∃ n,n = w1.heap.size := ⟨_,rfl⟩
    obtain ⟨w9,hw9⟩ : ∃ v,v = w1.alloc (.cells #[.slice none 0 0,.int .i64 0,.slice none 0 0,.slice none 0 0] 35) := ⟨_,rfl⟩
    rw [← hw9,← hntb]
    have S9 := ckA S1.out hw9 hntb
    skip
    clear hw9 hntb
    refine hK.out _ _ ?_ (fun hHeld => ?_)
    · exact S9.out.pick [1] (by decide)
    clear hK K
    try simp only [sx]
    refine rdH 1 rfl fun K hK => ?_
    go_simp
    refine (events_c s0 w9 H0.out.1 H0.out.2).mono ?_
    rintro e w10 ⟨v,rfl,O,hb⟩
    obtain ⟨AE,cE,rfl⟩ := Own.form O.out
    have S10 : Hid (Sep w.heap.size w [eInts (evV s0 5) (.slice AE (evV s0 5).length cE),eBlk ntb 35 [.slice none 0 0,.int .i64 0,.slice none 0 0,.slice none 0 0],eBlk w.heap.size 27 g0.cells] w10) := S9.out.newI O.out hb
    clear O hb
    refine hK.out _ _ ?_ (fun hHeld => ?_)
    · exact S10.out.pick [2] (by decide)
    clear hK K
    try simp only [sx]
    refine rdH 3 rfl fun K hK => ?_
    go_simp
    refine (make3_c AE cE (evV s0 5) g0 w10 (S10.out.ints 0 rfl) (evV_lt5 s0 5) (fun e => Own.none (S10.out.get 0 rfl) e) HG0.out).mono ?_
    rintro e w11 ⟨a,p,rfl,hr,ha,hn,hed,hmr,HAO,hb⟩
    have FA : Hid (Gd s0 a) := ⟨hr,ha,hn,hed,hmr⟩
    have S11 : Hid (Sep w.heap.size w [eInts a.al (.slice p.A1 a.al.length p.c1),eInts a.mr (.slice p.A2 a.mr.length p.c2),eEds a.ed (.slice p.A3 a.ed.length p.c3),eInts (evV s0 5) (.slice AE (evV s0 5).length cE),eBlk ntb 35 [.slice none 0 0,.int .i64 0,.slice none 0 0,.slice none 0 0],eBlk w.heap.size 27 g0.cells] w11) := S10.out.news (AuOwn.sep HAO.out hb)
    clear HAO hb hr ha hn hed hmr
    refine hK.out _ _ ?_ (fun hHeld => ?_)
    · exact S11.out.pick [5] (by decide)
    clear hK K
    try simp only [sx]
    refine rdH 5 rfl fun K hK => ?_
    have sc0 := ckC S11.out 4 rfl 0 rfl
    have sf0 := BlkAt.free (S11.out.get 4 rfl) 0
    have sc1 := ckC S11.out 4 rfl 1 rfl
    have sf1 := BlkAt.free (S11.out.get 4 rfl) 1
    have sc2 := ckC S11.out 4 rfl 2 rfl
    have sf2 := BlkAt.free (S11.out.get 4 rfl) 2
    have sc3 := ckC S11.out 4 rfl 3 rfl
    have sf3 := BlkAt.free (S11.out.get 4 rfl) 3
    try dsimp only [Au.val] at *
    go_simp
    obtain ⟨w12,hw12⟩ : ∃ v,v = ((((w11.setCell ⟨ntb,0,none⟩ (.slice p.A1 a.al.length p.c1)).setCell ⟨ntb,1,none⟩ (.int .i64 a.n)).setCell ⟨ntb,2,none⟩ (.slice p.A2 a.mr.length p.c2)).setCell ⟨ntb,3,none⟩ (.slice p.A3 a.ed.length p.c3)) := ⟨_,rfl⟩
    rw [← hw12]
    have S12 : Hid (Sep w.heap.size w [eInts a.al (.slice p.A1 a.al.length p.c1),eInts a.mr (.slice p.A2 a.mr.length p.c2),eEds a.ed (.slice p.A3 a.ed.length p.c3),eInts (evV s0 5) (.slice AE (evV s0 5).length cE),eBlk ntb 35 [.slice p.A1 a.al.length p.c1,.int .i64 a.n,.slice p.A2 a.mr.length p.c2,.slice p.A3 a.ed.length p.c3],eBlk w.heap.size 27 g0.cells] w12) := by rw [hw12]; exact ((((S11.out.set 4 rfl 0 (.slice p.A1 a.al.length p.c1)).set 4 rfl 1 (.int .i64 a.n)).set 4 rfl 2 (.slice p.A2 a.mr.length p.c2)).set 4 rfl 3 (.slice p.A3 a.ed.length p.c3))
    clear hw12 sc0 sf0 sc1 sf1 sc2 sf2 sc3 sf3
    refine hK.out _ _ ?_ (fun hHeld => ?_)
    · exact S12.out.pick [5] (by decide)
    clear hK K
    try simp only [sx]
    refine wpAnyH_done (by kernel_rfl) ?_ _
    have Q1 : Sep w.heap.size w [eBlk ntb 35 [.slice p.A1 a.al.length p.c1,.int .i64 a.n,.slice p.A2 a.mr.length p.c2,.slice p.A3 a.ed.length p.c3],eInts a.al (.slice p.A1 a.al.length p.c1),eInts a.mr (.slice p.A2 a.mr.length p.c2),eEds a.ed (.slice p.A3 a.ed.length p.c3)] w12 := S12.out.pick [4,0,1,2] (by decide)
    have Q2 := Lib.hid Q1.box
    clear Q1
    go_wp2_with fail
    go_meet
    exact ⟨a,p,ntb,rfl,FA.out,Q2.out⟩
 case rest =>
  clear SB
  obtain ⟨a,⟨A1,a1,A2,a2,A3,a3⟩,ta,rfl,FA,SX⟩ := hcut
  have HLa := Lib.hid FA.out.lens
  have na : a.n.toNat ≤ 5 := by have := FA.out.n; omega
  go_upto_region 4 with fail
  refine wp_world (fun V => Sep w.heap.size w [eBox ta a ⟨A1,a1,A2,a2,A3,a3⟩] V) SX.out fun W0 S' => ?_
  have S0 := Lib.hid S'
  clear S' SX
  have la0 := BlkAt.cell (S0.out.get 0 rfl).1 0
  have la1 := BlkAt.cell (S0.out.get 0 rfl).1 1
  have la2 := BlkAt.cell (S0.out.get 0 rfl).1 2
  have la3 := BlkAt.cell (S0.out.get 0 rfl).1 3
  simp only [List.getElem?_cons_succ,List.getElem?_cons_zero] at la0 la1 la2 la3
  go_wp2_with fail
  refine (complement_c a ⟨A1,a1,A2,a2,A3,a3⟩ W0 (HTAB.out.below S0.out.below) FA.out.rt (eBox.caps (S0.out.get 0 rfl)) (eBox.at (S0.out.get 0 rfl) HLa.out)).mono ?_
  rintro e w1 ⟨c,⟨C1,c1,C2,c2,C3,c3⟩,r,rfl,TT,HLc,RR⟩
  obtain ⟨rfl,hm,hal,hsz⟩ := RR.out.got FA.out.rt Au.zero_right (x := 5) (y := 0) na (by decide) (by decide)
  have HMc := Lib.hid hm
  have HAc := Lib.hid hal
  have HSc := Lib.hid hsz
  have T1 := ckN S0.out TT.out
  clear TT RR hm hal hsz la0 la1 la2 la3 S0
  dsimp only [Au.val]
  obtain ⟨tc,ht⟩ : ∃ g,g = w1.heap.size := ⟨_,rfl⟩
  go_upto_region 5 with fail
  rw [← ht]
  refine wp_world (fun V => Sep w.heap.size w [eBlk tc 35 [.slice C1 c.al.length c1,.int .i64 c.n,.slice C2 c.mr.length c2,.slice C3 c.ed.length c3],eInts c.al (.slice C1 c.al.length c1),eInts c.mr (.slice C2 c.mr.length c2),eEds c.ed (.slice C3 c.ed.length c3),eBox ta a ⟨A1,a1,A2,a2,A3,a3⟩] V) (T1.out.alloc' _ [_,_,_,_] rfl ht) fun W1 S' => ?_
  have S1 : Hid (Sep w.heap.size w [eBox tc c ⟨C1,c1,C2,c2,C3,c3⟩,eBox ta a ⟨A1,a1,A2,a2,A3,a3⟩] W1) := S'.box
  clear S' T1 ht
  have hal5 : a.al.length ≤ 5 := by have := (evV_lt5 s0 5).len; rw [FA.out.al]; exact this
  have S13 := Lib.hid S1.out.drew
  refine wp_region_held_drew (S := (fun V => Sep w.heap.size w [eBox tc c ⟨C1,c1,C2,c2,C3,c3⟩,eBox ta a ⟨A1,a1,A2,a2,A3,a3⟩] V)) (by kernel_rfl) ?_ (fun hHeld => ?_)
  · exact S13.out.pick [0,1] (by decide)
  generalize hwz : W1.drew = w13 at *
  clear hwz
  refine tkP 0 rfl (v := ?_) hHeld ?_
  try simp only [sx]
  refine tkP 1 rfl (v := ?_) hHeld ?_
  try simp only [sx]
  refine tkP 2 rfl (v := ?_) hHeld ?_
  try simp only [sx]
  refine tkH 3 rfl (v := ?_) (by kernel_rfl) ?_ hHeld ?_
  rotate_left
  · intro V hSw
    have c0 := BlkAt.cell (Sep.get (show Sep w.heap.size w _ V from hSw) 0 rfl).1 0
    have c1 := BlkAt.cell (Sep.get (show Sep w.heap.size w _ V from hSw) 0 rfl).1 1
    have c2 := BlkAt.cell (Sep.get (show Sep w.heap.size w _ V from hSw) 0 rfl).1 2
    have c3 := BlkAt.cell (Sep.get (show Sep w.heap.size w _ V from hSw) 0 rfl).1 3
    simp only [List.getElem?_cons_succ,List.getElem?_cons_zero] at c0 c1 c2 c3
    clear hSw
    first | (go_simp; done) | (go_simp; with_reducible rfl)
  try simp only [sx]
  refine tkP 4 rfl (v := ?_) hHeld ?_
  try simp only [sx]
  refine tkH 5 rfl (v := ?_) (by kernel_rfl) ?_ hHeld ?_
  rotate_left
  · intro V hSw
    have c0 := BlkAt.cell (Sep.get (show Sep w.heap.size w _ V from hSw) 1 rfl).1 0
    simp only [List.getElem?_cons_zero] at c0
    clear hSw
    first | (go_simp; done) | (go_simp; with_reducible rfl)
  try simp only [sx]
  refine tkH 7 rfl (v := ?_) (by kernel_rfl) ?_ hHeld ?_
  rotate_left
  · intro V hSw
    have c0 := BlkAt.cell (Sep.get (show Sep w.heap.size w _ V from hSw) 1 rfl).1 0
    have c1 := BlkAt.cell (Sep.get (show Sep w.heap.size w _ V from hSw) 1 rfl).1 1
    have c2 := BlkAt.cell (Sep.get (show Sep w.heap.size w _ V from hSw) 1 rfl).1 2
    have c3 := BlkAt.cell (Sep.get (show Sep w.heap.size w _ V from hSw) 1 rfl).1 3
    simp only [List.getElem?_cons_succ,List.getElem?_cons_zero] at c0 c1 c2 c3
    clear hSw
    first | (go_simp; done) | (go_simp; with_reducible rfl)
  try simp only [sx]
  refine rdH 6 rfl fun K hK => ?_
  go_simp
  refine (all_c A1 a1 a.al w13 (eBox.at (Sep.get S13.out 1 rfl) HLa.out).al (Nat.le_trans hal5 (by decide)) (eBox.caps (Sep.get S13.out 1 rfl)).c1).mono ?_
  rintro e w14 ⟨⟨V1,v1,V2,v2,V3,v3⟩,rfl,HV,_,hb⟩
  have S14 := Lib.hid (S13.out.next hb)
  clear hb
  dsimp only [Au.val]
  refine hK.out _ _ ?_ (fun hHeld => ?_)
  · exact S14.out.pick [0,1] (by decide)
  clear hK K
  try simp only [sx]
  refine rdH 8 rfl fun K hK => ?_
  go_simp
  refine (combine9_c (allV a.al) a ⟨V1,v1,V2,v2,V3,v3⟩ ⟨A1,a1,A2,a2,A3,a3⟩ 3 (fun x y => x && !y) w14 (.inr (.inr ⟨rfl,rfl⟩)) (allV_right FA.out.rt.al) FA.out.rt HV.out (eBox.at (Sep.get S14.out 1 rfl) HLa.out) (Nat.le_trans (Nat.mul_le_mul (show (allV a.al).n.toNat + 1 ≤ 2 from Nat.le_refl _) (show a.n.toNat + 1 ≤ 6 by omega)) (by decide))).mono ?_
  rintro e w15 ⟨m,⟨M1,m1,M2,m2,M3,m3⟩,rfl,TM,HLm,HMm,hma⟩
  obtain rfl : c = m := compl_uniq FA.out.rt HMc.out HAc.out HMm.out hma
  have S15 := ckN S14.out TM.out
  clear TM hma HMm
  dsimp only [Au.val]
  refine hK.out _ _ ?_ (fun hHeld => ?_)
  · exact S15.out.pick [3,4] (by decide)
  clear hK K
  try simp only [sx]
  refine rdH 9 rfl fun K hK => ?_
  go_simp
  refine (same3_c c ⟨C1,c1,C2,c2,C3,c3⟩ ⟨M1,m1,M2,m2,M3,m3⟩ w15 (eBox.at (Sep.get S15.out 3 rfl) HLc.out) ⟨S15.out.ints 0 rfl,S15.out.ints 1 rfl,S15.out.eds 2 rfl,HLm.out.1,HLm.out.2.1,HLm.out.2.2⟩).mono ?_
  rintro e w16 ⟨rfl,hb⟩
  have S16 := Lib.hid (S15.out.next hb)
  clear hb
  refine hK.out _ _ ?_ (fun hHeld => ?_)
  · exact S16.out.pick [3,4] (by decide)
  clear hK K
  try simp only [sx]
  refine tkP 10 rfl (v := ?_) hHeld ?_
  try simp only [sx]
  refine tkP 11 rfl (v := ?_) hHeld ?_
  try simp only [sx]
  refine wpAnyH_done (by kernel_rfl) ?_ _
  go_upto_region 7 with fail
  refine wp_world (fun V => Sep w.heap.size w [eBox tc c ⟨C1,c1,C2,c2,C3,c3⟩,eBox ta a ⟨A1,a1,A2,a2,A3,a3⟩] V) (S16.out.pick [3,4] (by decide)) fun W2 S' => ?_
  have S2 := Lib.hid S'
  clear S' S1
  have lc0 := BlkAt.cell (S2.out.get 0 rfl).1 0
  have lc1 := BlkAt.cell (S2.out.get 0 rfl).1 1
  have lc2 := BlkAt.cell (S2.out.get 0 rfl).1 2
  have lc3 := BlkAt.cell (S2.out.get 0 rfl).1 3
  simp only [List.getElem?_cons_succ,List.getElem?_cons_zero] at lc0 lc1 lc2 lc3
  go_wp2_with fail
  refine (complement_c c ⟨C1,c1,C2,c2,C3,c3⟩ W2 (HTAB.out.below S2.out.below) HMc.out.rt (eBox.caps (S2.out.get 0 rfl)) (eBox.at (S2.out.get 0 rfl) HLc.out)).mono ?_
  rintro e w3 ⟨b,⟨B1,b1,B2,b2,B3,b3⟩,r,rfl,TT,HLb,RR⟩
  obtain ⟨rfl,hm,hal,hsz⟩ := RR.out.got HMc.out.rt Au.zero_right (x := 6) (y := 0) HSc.out (by decide) (by decide)
  have HMb := Lib.hid hm
  have HAb := Lib.hid hal
  have HSb := Lib.hid hsz
  have T3 := ckN S2.out TT.out
  clear TT RR hm hal hsz lc0 lc1 lc2 lc3 S2
  dsimp only [Au.val]
  obtain ⟨tb,ht⟩ : ∃ g,g = w3.heap.size := ⟨_,rfl⟩
  go_upto_region 8 with fail
  rw [← ht]
  refine wp_world (fun V => Sep w.heap.size w [eBlk tb 35 [.slice B1 b.al.length b1,.int .i64 b.n,.slice B2 b.mr.length b2,.slice B3 b.ed.length b3],eInts b.al (.slice B1 b.al.length b1),eInts b.mr (.slice B2 b.mr.length b2),eEds b.ed (.slice B3 b.ed.length b3),eBox tc c ⟨C1,c1,C2,c2,C3,c3⟩,eBox ta a ⟨A1,a1,A2,a2,A3,a3⟩] V) (T3.out.alloc' _ [_,_,_,_] rfl ht) fun W3 S' => ?_
  have S3 : Hid (Sep w.heap.size w [eBox tb b ⟨B1,b1,B2,b2,B3,b3⟩,eBox tc c ⟨C1,c1,C2,c2,C3,c3⟩,eBox ta a ⟨A1,a1,A2,a2,A3,a3⟩] W3) := S'.box
  clear S' T3 ht
  have S17 := Lib.hid S3.out.drew
  refine wp_region_held_drew (S := (fun V => Sep w.heap.size w [eBox tb b ⟨B1,b1,B2,b2,B3,b3⟩,eBox ta a ⟨A1,a1,A2,a2,A3,a3⟩] V)) (by kernel_rfl) ?_ (fun hHeld => ?_)
  · exact S17.out.pick [0,2] (by decide)
  generalize hwz : W3.drew = w17 at *
  clear hwz
  refine tkP 0 rfl (v := ?_) hHeld ?_
  try simp only [sx]
  refine tkP 1 rfl (v := ?_) hHeld ?_
  try simp only [sx]
  refine tkP 2 rfl (v := ?_) hHeld ?_
  try simp only [sx]
  refine tkH 3 rfl (v := ?_) (by kernel_rfl) ?_ hHeld ?_
  rotate_left
  · intro V hSw
    have c0 := BlkAt.cell (Sep.get (show Sep w.heap.size w _ V from hSw) 0 rfl).1 0
    have c1 := BlkAt.cell (Sep.get (show Sep w.heap.size w _ V from hSw) 0 rfl).1 1
    have c2 := BlkAt.cell (Sep.get (show Sep w.heap.size w _ V from hSw) 0 rfl).1 2
    have c3 := BlkAt.cell (Sep.get (show Sep w.heap.size w _ V from hSw) 0 rfl).1 3
    simp only [List.getElem?_cons_succ,List.getElem?_cons_zero] at c0 c1 c2 c3
    clear hSw
    first | (go_simp; done) | (go_simp; with_reducible rfl)
  try simp only [sx]
  refine tkH 4 rfl (v := ?_) (by kernel_rfl) ?_ hHeld ?_
  rotate_left
  · intro V hSw
    have c0 := BlkAt.cell (Sep.get (show Sep w.heap.size w _ V from hSw) 1 rfl).1 0
    have c1 := BlkAt.cell (Sep.get (show Sep w.heap.size w _ V from hSw) 1 rfl).1 1
    have c2 := BlkAt.cell (Sep.get (show Sep w.heap.size w _ V from hSw) 1 rfl).1 2
    have c3 := BlkAt.cell (Sep.get (show Sep w.heap.size w _ V from hSw) 1 rfl).1 3
    simp only [List.getElem?_cons_succ,List.getElem?_cons_zero] at c0 c1 c2 c3
    clear hSw
    first | (go_simp; done) | (go_simp; with_reducible rfl)
  try simp only [sx]
  refine rdH 5 rfl fun K hK => ?_
  go_simp
  refine (minimal9_c a ⟨A1,a1,A2,a2,A3,a3⟩ w17 FA.out.rt (eBox.at (Sep.get S17.out 2 rfl) HLa.out) (fun h => (Own.none (Sep.get S17.out 2 rfl).2.1 h).2)).mono ?_
  rintro e w18 ⟨m,⟨M1,m1,M2,m2,M3,m3⟩,rfl,TM,HLm,HMm,hma⟩
  obtain rfl : b = m := back_uniq FA.out.rt HMc.out HAc.out HMb.out HAb.out HMm.out hma
  have S18 := ckN S17.out TM.out
  clear TM hma HMm
  dsimp only [Au.val]
  refine hK.out _ _ ?_ (fun hHeld => ?_)
  · exact S18.out.pick [3,5] (by decide)
  clear hK K
  try simp only [sx]
  refine rdH 6 rfl fun K hK => ?_
  go_simp
  refine (same3_c b ⟨B1,b1,B2,b2,B3,b3⟩ ⟨M1,m1,M2,m2,M3,m3⟩ w18 (eBox.at (Sep.get S18.out 3 rfl) HLb.out) ⟨S18.out.ints 0 rfl,S18.out.ints 1 rfl,S18.out.eds 2 rfl,HLm.out.1,HLm.out.2.1,HLm.out.2.2⟩).mono ?_
  rintro e w19 ⟨rfl,hb⟩
  have S19 := Lib.hid (S18.out.next hb)
  clear hb
  refine hK.out _ _ ?_ (fun hHeld => ?_)
  · exact S19.out.pick [3,5] (by decide)
  clear hK K
  try simp only [sx]
  refine tkP 7 rfl (v := ?_) hHeld ?_
  try simp only [sx]
  refine tkP 8 rfl (v := ?_) hHeld ?_
  try simp only [sx]
  refine wpAnyH_done (by kernel_rfl) ?_ _
  go_wp2_with fail
  go_ret
  exact ⟨rfl,S19.out.below⟩
end Go.Proofs.YtkifgffhoenaoaaDoor
