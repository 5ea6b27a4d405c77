/-
  overseerref09.Included and Least.
  language.Least and Empty at right automata.
  overseerlaw09.LanguageLeast.
  How the arguments of the laws read: numbers, described graphs, described pairs.
-/
import Derived.Test.YtkifgffhoenaoaaDoorBas01
import Derived.Test.YtkifgffhoenaoaaDoorPgx02
import Derived.Test.YtkifgffhoenaoaaDoorBas18
import Derived.Test.YtkifgffhoenaoaaDoorBas15
import Derived.Test.YtkifgffhoenaoaaDoorPgx01
set_option linter.unusedSimpArgs false
set_option linter.unusedVariables false
namespace Go.Proofs.YtkifgffhoenaoaaDoor
open Go.RowKit
set_option maxRecDepth 100000
theorem has9_e (a : Au) (p : AuP) (s kind : Int) (r : Bool) (w : World) (h2 : IntsAt w p.A2 a.mr) (l2 : a.mr.length ≤ 140737488355328) (h : inV a s kind = r) : Calls Tryd.prog 44 #[a.val p,.int .i64 s,.int .i64 kind] w (Ret (.bool r) w) := h ▸ has9_c a p s kind w h2 l2
def Gives9 (a b : Au) (P : Int × Int → Bool) (w : World) (e : Ending) (w' : World) : Prop := ∃ (A : Option Addr) (c : Nat) (l : List Int) (f : Bool),e = .returned (.tuple #[.slice A l.length c,.bool f]) ∧ Hid (IntsAt w' A l) ∧ Below w.heap.size w w' ∧ l.length ≤ 1000000 ∧
 Hid (f = true ∧ LeastW (LeadsTo (stp2 a b) (a.st,b.st) (unionV a.al b.al) (fun q => P q = true)) l ∨ f = false ∧ l = [] ∧ ∀ u,¬ LeadsTo (stp2 a b) (a.st,b.st) (unionV a.al b.al) (fun q => P q = true) u)
def inc9 (a b : Au) (kind : Int) (both : Bool) (q : Int × Int) : Bool := (inV a q.1 kind && !inV b q.2 kind) || (both && inV b q.2 kind && !inV a q.1 kind)
theorem PAll.word {a b : Au} {evs : List Int} {l : List Pr} (h : PAll a b evs l) {j : Nat} {p : Pr} (hp : l[j]? = some p) : p.w.length ≤ j := by
 rcases h with ⟨_,_,rfl⟩ | h
 · simp at hp
 · exact h.word hp
set_option maxHeartbeats 16000000 in
theorem least9_c (a : Au) (p : AuP) (kind : Int) (w : World) (ha : a.Right) (hA : Au.At w a p) :
 Calls Tryd.prog 35 #[a.val p,.int .i64 kind] w (Gives9 a Au.zero (fun q => inV a q.1 kind) w) := by
 have HRA := Lib.hid ha
 have HA := Lib.hid hA
 have HD : Hid (¬ inV a (-1) kind = true) := by simp [Hid,inV]
 have hN : (a.n.toNat + 1) * 1 ≤ 1000000 := by have := ha.n1; omega
 have hN2 : (a.n.toNat + 1) * (Au.zero.n.toNat + 1) ≤ 1000000 := hN
 obtain ⟨al,n,mr,ed⟩ := a
 obtain ⟨A1,c1,A2,c2,A3,c3⟩ := p
 try dsimp only [Au.val] at *
 clear ha hA
 go_enter Tryd.func35,Tryd.ntmps35
 go_upto_region 1 with fail
 refine wp_world (fun W => Sep w.heap.size w [eBlk w.heap.size 35 [.slice A1 al.length c1,.int .i64 n,.slice A2 mr.length c2,.slice A3 ed.length c3]] W) ?_ fun W S => ?_
 · exact (Sep.here w).alloc' _ [_,_,_,_] rfl rfl
 have S0 := Lib.hid S
 clear S
 go_cut [6] (fun v wx => ∃ (raw : List PrV) (l : List Pr) (AR : Option Addr) (cR : Nat) (fs : List Nat),v = .slice AR raw.length cR ∧ Hid (PAll ⟨al,n,mr,ed⟩ Au.zero (unionV al Au.zero.al) l) ∧ Hid (Sep w.heap.size w [eWds fs raw l,eOwn PrV.cells 3 82 raw (.slice AR raw.length cR),eBlk w.heap.size 35 [.slice A1 al.length c1,.int .i64 n,.slice A2 mr.length c2,.slice A3 ed.length c3]] wx))
 case first =>
  have S6 := Lib.hid S0.out.drew
  refine wp_region_held_drew (S := (fun V => Sep w.heap.size w [eBlk w.heap.size 35 [.slice A1 al.length c1,.int .i64 n,.slice A2 mr.length c2,.slice A3 ed.length c3]] V)) (by kernel_rfl) ?_ (fun hHeld => ?_)
  · exact S6.out.pick [0] (by decide)
  generalize hwz : W.drew = w6 at *
  clear hwz
  refine tkH 0 rfl (v := ?_) (by kernel_rfl) ?_ hHeld ?_
  rotate_left
  · intro V hSw
    have a0 := ckC hSw 0 rfl 0 rfl
    have a1 := ckC hSw 0 rfl 1 rfl
    have a2 := ckC hSw 0 rfl 2 rfl
    have a3 := ckC hSw 0 rfl 3 rfl
    clear hSw
    first | (go_simp; done) | (go_simp; with_reducible rfl)
  try simp only [sx]
  refine rdH 1 rfl fun K hK => ?_
  go_simp
  refine (Empty_c none 0 [] w6 SlAt.nil (by simp) (fun _ => ⟨rfl,rfl⟩)).mono ?_
  rintro e w7 ⟨AE,cE,rfl,HO,hb⟩
  have S7 := Lib.hid (S6.out.next hb)
  have HZ : Hid (Au.At w7 Au.zero ⟨AE,cE,none,0,none,0⟩) := ⟨OwnI.ints HO,SlAt.nil,SlAt.nil,by simp [Au.zero],by simp [Au.zero],by simp [Au.zero]⟩
  clear hb HO
  refine hK.out _ _ ?_ (fun hHeld => ?_)
  · exact S7.out.pick [0] (by decide)
  clear hK K
  try simp only [sx]
  refine rdH 2 rfl fun K hK => ?_
  go_simp
  refine (pairs_c ⟨al,n,mr,ed⟩ Au.zero ⟨A1,c1,A2,c2,A3,c3⟩ ⟨AE,cE,none,0,none,0⟩ w7 HRA.out Au.zero_right (HA.out.below S7.out.below) HZ.out hN2).mono ?_
  rintro e w8 ⟨raw,l,AR,cR,fs,rfl,T,PL,PS⟩
  have S8 := ckN S7.out T.out
  clear T PS
  refine hK.out _ _ ?_ (fun hHeld => ?_)
  · exact S8.out.pick [2] (by decide)
  clear hK K
  try simp only [sx]
  refine tkP 3 rfl (v := ?_) hHeld ?_
  try simp only [sx]
  refine wpAnyH_done (by kernel_rfl) ?_ _
  go_wp2_with fail
  go_meet
  exact ⟨raw,l,AR,cR,fs,rfl,PL.out,S8.out⟩
 case rest =>
  clear S0
  obtain ⟨raw,l,AR,cR,fs,rfl,PL,S1⟩ := hcut
  have hrl : Hid (raw.length = l.length) := (S1.out.get 0 rfl).1
  have hlen : raw.length ≤ 1000000 := by rw [hrl.out]; exact Nat.le_trans (PL.out.len HRA.out Au.zero_right) hN2
  go_wp2_with fail
  go_loopw [7] (fun x wr => ∃ (i : Nat),x = .int .i64 (i : Int) ∧ i ≤ raw.length ∧ Hid (∀ j q,j < i → l[j]? = some q → ¬ inV ⟨al,n,mr,ed⟩ q.pr.1 kind = true) ∧ Hid (Sep w.heap.size w [eWds fs raw l,eOwn PrV.cells 3 82 raw (.slice AR raw.length cR),eBlk w.heap.size 35 [.slice A1 al.length c1,.int .i64 n,.slice A2 mr.length c2,.slice A3 ed.length c3]] wr)) (fun x _ => raw.length - (intOf x).toNat)
  case atStart => exact ⟨0,rfl,Nat.zero_le _,fun j q h => absurd h (Nat.not_lt_zero _),S1.out⟩
  case round =>
   clear S1
   obtain ⟨i,rfl,hi,HNO,S⟩ := hrel
   by_cases hlt : i < raw.length
   · obtain ⟨gR,oR,r,rfl,hr⟩ := S.out.prs 1 rfl hlt
     obtain ⟨p,hp⟩ : ∃ p,l[i]? = some p := ⟨_,List.getElem?_eq_getElem (by rw [← hrl.out]; exact hlt)⟩
     obtain ⟨rx,ry,hwn,hwd⟩ := (S.out.get 0 rfl).2.2 i r p hr hp
     obtain ⟨rX,rY,rA,rn_,rc⟩ := r
     dsimp only at rx ry hwn hwd
     subst rx ry hwn
     obtain ⟨hx1,hxe⟩ : ∃ x,inV ⟨al,n,mr,ed⟩ p.x kind = x := ⟨_,rfl⟩
     have HX1 := Lib.hid hxe
     have hpw : p.w.length ≤ i := PL.out.word hp
     have hwl : p.w.length ≤ 1000000 := by omega
     clear hxe hwd
     have S5 := S
     clear S
     go_upto_region 5 with fail
     go_cut [24] (fun x wx => x = .bool hx1 ∧ Hid (Sep w.heap.size w [eWds fs raw l,eOwn PrV.cells 3 82 raw (.slice (some ⟨gR,oR,none⟩) raw.length cR),eBlk w.heap.size 35 [.slice A1 al.length c1,.int .i64 n,.slice A2 mr.length c2,.slice A3 ed.length c3]] wx))
     case first =>
      have S4 := Lib.hid S5.out.drew
      refine wp_region_held_drew (S := (fun V => Sep w.heap.size w [eOwn PrV.cells 3 82 raw (.slice (some ⟨gR,oR,none⟩) raw.length cR),eBlk w.heap.size 35 [.slice A1 al.length c1,.int .i64 n,.slice A2 mr.length c2,.slice A3 ed.length c3]] V)) (by kernel_rfl) ?_ (fun hHeld => ?_)
      · exact S4.out.pick [1,2] (by decide)
      generalize hwz : wr.drew = w4 at *
      clear hwz
      refine tkH 0 rfl (v := ?_) (by kernel_rfl) ?_ hHeld ?_
      rotate_left
      · intro V hSw
        have a0 := ckC hSw 1 rfl 0 rfl
        have a1 := ckC hSw 1 rfl 1 rfl
        have a2 := ckC hSw 1 rfl 2 rfl
        have a3 := ckC hSw 1 rfl 3 rfl
        clear hSw
        first | (go_simp; done) | (go_simp; with_reducible rfl)
      try simp only [sx]
      refine tkP 1 rfl (v := ?_) hHeld ?_
      try simp only [sx]
      refine tkP 2 rfl (v := ?_) hHeld ?_
      try simp only [sx]
      refine tkP 3 rfl (v := ?_) hHeld ?_
      try simp only [sx]
      refine tkP 4 rfl (v := ?_) hHeld ?_
      try simp only [sx]
      refine tkH 5 rfl (v := ?_) (by kernel_rfl) ?_ hHeld ?_
      rotate_left
      · intro V hSw
        have b0 := (Sep.prAt (show Sep w.heap.size w _ V from hSw) 0 rfl hr).1
        clear hSw
        first | (go_simp; done) | (go_simp; with_reducible rfl)
      try simp only [sx]
      refine tkP 6 rfl (v := ?_) hHeld ?_
      try simp only [sx]
      refine rdH 7 rfl fun K hK => ?_
      go_simp
      refine (has9_e ⟨al,n,mr,ed⟩ ⟨A1,c1,A2,c2,A3,c3⟩ p.x kind hx1 w4 (HA.out.below S4.out.below).mr HA.out.lmk HX1.out).mono ?_
      rintro e w5 ⟨rfl,hb⟩
      have S5 := Lib.hid (S4.out.next hb)
      clear hb
      refine hK.out _ _ ?_ (fun hHeld => ?_)
      · exact S5.out.pick [1,2] (by decide)
      clear hK K
      try simp only [sx]
      refine wpAnyH_done (by kernel_rfl) ?_ _
      go_wp2_with fail
      go_meet
      exact ⟨rfl,S5.out⟩
     case rest =>
      obtain ⟨rfl,S6⟩ := hcut
      have HWE : Hid (IntsAt wc rA p.w) := by
       obtain ⟨_,_,h⟩ := (S6.out.get 0 rfl).2.2 i _ p hr hp
       exact WdAt.ints h (S6.out.get 0 rfl).2.1
      have c2' := (S6.out.prAt 1 rfl hr).2.2
      clear S5
      cases hx1
      · have HZ : Hid (∀ j q,j < i + 1 → l[j]? = some q → ¬ inV ⟨al,n,mr,ed⟩ q.pr.1 kind = true) := fun j q hj hq => by
         by_cases e : j = i
         · subst e
           rw [hp] at hq; cases hq
           rw [show p.pr.1 = p.x from rfl,HX1.out]; simp
         · exact HNO.out j q (by omega) hq
        clear HNO HX1
        go_wp2_with fail
        go_roundw
        case rel => exact ⟨i + 1,by go_num,by omega,HZ.out,S6.out⟩
        case measure => simp [intOf]; omega
      · have HY : Hid (LeastW (LeadsTo (stp2 ⟨al,n,mr,ed⟩ Au.zero) (Au.st ⟨al,n,mr,ed⟩,Au.zero.st) (unionV al Au.zero.al) (fun q => inV ⟨al,n,mr,ed⟩ q.1 kind = true)) p.w) := PL.out.least HRA.out Au.zero_right (P := fun q => inV ⟨al,n,mr,ed⟩ q.1 kind = true) HD.out HNO.out hp HX1.out
        clear HNO HX1
        go_wp2_with fail
        refine bodyPost_ret (v := .tuple #[.slice rA p.w.length rc,.bool true]) (by simp [results,Tryd.results35,go_sem]) rfl ?_
        exact ⟨rA,rc,p.w,true,rfl,HWE.out,S6.out.below,hwl,.inl ⟨rfl,HY.out⟩⟩
   · obtain rfl : i = raw.length := by omega
     have HZ : Hid (∀ u,¬ LeadsTo (stp2 ⟨al,n,mr,ed⟩ Au.zero) (Au.st ⟨al,n,mr,ed⟩,Au.zero.st) (unionV al Au.zero.al) (fun q => inV ⟨al,n,mr,ed⟩ q.1 kind = true) u) := fun u => PL.out.none_ HRA.out Au.zero_right (P := fun q => inV ⟨al,n,mr,ed⟩ q.1 kind = true) HD.out (fun j q hq => HNO.out j q (by have := (List.getElem?_eq_some_iff.1 hq).1; rw [hrl.out]; exact this) hq) u
     clear HNO
     go_wp2_with fail
     refine bodyPost_ret (v := .tuple #[.slice none 0 0,.bool false]) (by simp [results,Tryd.results35,go_sem]) rfl ?_
     exact ⟨none,0,[],false,rfl,SlAt.nil,S.out.below,by simp,.inr ⟨rfl,rfl,HZ.out⟩⟩
theorem lea1_c (n1 n2 b1 : Nat) (a : Au) (kind x y : Int) (w : World) (c1 : w.cell? ⟨n1,0,none⟩ = some (.pointer (some ⟨b1,0,none⟩))) (c2 : w.cell? ⟨n2,0,none⟩ = some (.int .i64 kind))
 (z1 : n1 < w.heap.size) (z2 : n2 < w.heap.size) (h1 : Mach w b1 a) :
 Calls Tryd.prog 63 #[.agg #[.int .i64 x,.int .i64 y],.pointer (some ⟨n1,0,none⟩),.pointer (some ⟨n2,0,none⟩)] w (Ret (.bool (inV a x kind)) w) := by
 have B0 : Hid (Below w.heap.size w (w.alloc (.cells #[.int .i64 x,.int .i64 y] 75))) := Below.new _ _
 have H1 := Lib.hid (min_c b1 a x kind (w.alloc (.cells #[.int .i64 x,.int .i64 y] 75)) (h1.below B0.out))
 clear h1
 go_enter Tryd.func63,Tryd.ntmps63
 go_wp2_with fail
 refine H1.out.mono ?_
 rintro e w' ⟨rfl,rfl⟩
 go_wp2
 go_ret
 exact ⟨rfl,B0.out⟩
theorem AuE.one (T : TypeId) (a : Au) (p : AuP) (w : World) (ha : Au.At w a p) : SlAt AuE 4 (w.alloc (.cells (auCells a p).toArray T)) (some ⟨w.heap.size,0,none⟩) [a] := by
 intro _
 have hB := Below.new w (.cells (auCells a p).toArray T)
 refine ⟨w.heap.size,0,rfl,by simp,?_⟩
 intro i x hx
 match i,hx with
 | 0,hx =>
   obtain rfl : a = x := by simpa using hx
   refine ⟨auCells a p,rfl,⟨p,rfl,ha.below hB⟩,fun j v hj => ?_⟩
   refine (new_cell w T _ _ _ rfl).trans ?_
   simp only [Nat.zero_mul,Nat.zero_add]
   exact hj
def GivesLe (a : Au) (kind : Int) (w : World) (e : Ending) (w' : World) : Prop := ∃ (A : Option Addr) (c : Nat) (l : List Int) (f : Bool),e = .returned (.tuple #[.slice A l.length c,.bool f,.int .i64 0]) ∧ Hid (IntsAt w' A l) ∧ Below w.heap.size w w' ∧
 Hid (f = true ∧ LeastW (LeadsTo (stp2 a Au.zero) (a.st,Au.zero.st) a.al (fun q => (fun q : Int × Int => inV a q.1 kind) q = true)) l ∨ f = false ∧ l = [] ∧ ∀ u,¬ LeadsTo (stp2 a Au.zero) (a.st,Au.zero.st) a.al (fun q => (fun q : Int × Int => inV a q.1 kind) q = true) u)
set_option maxHeartbeats 4000000 in
theorem least_c (a : Au) (p : AuP) (kind : Int) (w : World) (hA : Au.At w a p) (hr : a.Right) (hk : kind = 1 ∨ kind = 2) :
 Calls Tryd.prog 34 #[a.val p,.int .i64 kind] w (GivesLe a kind w) := by
 have HA := Lib.hid hA
 have HRA := Lib.hid hr
 have HK := Lib.hid hk
 obtain ⟨al,n,mr,ed⟩ := a
 obtain ⟨A1,c1,A2,c2,A3,c3⟩ := p
 dsimp only [Au.val]
 clear hA hr hk
 go_enter Tryd.func34,Tryd.ntmps34
 go_upto_region 1 with fail
 refine wp_world (fun W => Sep w.heap.size w [eBlk (w.heap.size + 1) 3 [.int .i64 kind],eBlk w.heap.size 35 [.slice A1 al.length c1,.int .i64 n,.slice A2 mr.length c2,.slice A3 ed.length c3]] W) ?_ fun W S => ?_
 · exact ((Sep.here w).alloc' _ [_,_,_,_] rfl rfl).alloc' _ [_] rfl (by simp)
 have S0 := Lib.hid S
 clear S
 have a0 := ckC S0.out 1 rfl 0 rfl
 have a1 := ckC S0.out 1 rfl 1 rfl
 have a2 := ckC S0.out 1 rfl 2 rfl
 have a3 := ckC S0.out 1 rfl 3 rfl
 have k0 := ckC S0.out 0 rfl 0 rfl
 have CK : Hid (SlAt AuE 4 (W.alloc (.cells #[.slice A1 al.length c1,.int .i64 n,.slice A2 mr.length c2,.slice A3 ed.length c3] 35)) (some ⟨W.heap.size,0,none⟩) [⟨al,n,mr,ed⟩]) := AuE.one _ _ ⟨A1,c1,A2,c2,A3,c3⟩ W (HA.out.below S0.out.below)
 have CR : Hid (∀ a,a ∈ [(⟨al,n,mr,ed⟩ : Au)] → a.Right) := fun a h => (List.mem_singleton.1 h) ▸ HRA.out
 go_wp2_with fail
 refine (check_c (some ⟨W.heap.size,0,none⟩) 1 [⟨al,n,mr,ed⟩] kind _ CK.out (by simp) CR.out HK.out).mono ?_
 rintro e w1 ⟨rfl,hb⟩
 have S1 : Hid (Sep w.heap.size w [eBlk (w.heap.size + 1) 3 [.int .i64 kind],eBlk w.heap.size 35 [.slice A1 al.length c1,.int .i64 n,.slice A2 mr.length c2,.slice A3 ed.length c3]] w1) := (S0.out.next (Below.new W _)).next hb
 clear hb CK CR S0 a0 a1 a2 a3 k0
 have a0 := ckC S1.out 1 rfl 0 rfl
 have a1 := ckC S1.out 1 rfl 1 rfl
 have a2 := ckC S1.out 1 rfl 2 rfl
 have a3 := ckC S1.out 1 rfl 3 rfl
 go_wp2_with fail
 refine (open_c ⟨al,n,mr,ed⟩ ⟨A1,c1,A2,c2,A3,c3⟩ w1 (HA.out.below S1.out.below)).mono ?_
 rintro e w2 ⟨bx,m1,m2,rfl,hz,HM,hb⟩
 have S2 : Hid (Sep w.heap.size w [eMach bx m1 m2 (⟨al,n,mr,ed⟩ : Au),eBlk (w.heap.size + 1) 3 [.int .i64 kind],eBlk w.heap.size 35 [.slice A1 al.length c1,.int .i64 n,.slice A2 mr.length c2,.slice A3 ed.length c3]] w2) := S1.out.newMach hb hz.1 hz.2.1 hz.2.2 HM.out
 clear HM hb hz S1 a0 a1 a2 a3
 obtain ⟨nx,hnx⟩ : ∃ g,g = w2.heap.size := ⟨_,rfl⟩
 go_upto_region 5 with fail
 rw [← hnx]
 refine wp_world (fun V => Sep w.heap.size w [eBlk nx 71 [.pointer (some ⟨bx,0,none⟩)],eMach bx m1 m2 (⟨al,n,mr,ed⟩ : Au),eBlk (w.heap.size + 1) 3 [.int .i64 kind],eBlk w.heap.size 35 [.slice A1 al.length c1,.int .i64 n,.slice A2 mr.length c2,.slice A3 ed.length c3]] V) (S2.out.alloc' _ [_] rfl hnx) fun W5 S' => ?_
 have S5 := Lib.hid S'
 clear S' S2 hnx
 have S1 := Lib.hid S5.out.drew
 refine wp_region_held_drew (S := (fun V => Sep w.heap.size w [eBlk nx 71 [.pointer (some ⟨bx,0,none⟩)],eBlk w.heap.size 35 [.slice A1 al.length c1,.int .i64 n,.slice A2 mr.length c2,.slice A3 ed.length c3]] V)) (by kernel_rfl) ?_ (fun hHeld => ?_)
 · exact S1.out.pick [0,3] (by decide)
 generalize hwz : W5.drew = w1 at *
 clear hwz
 refine tkP 0 rfl (v := ?_) hHeld ?_
 try simp only [sx]
 refine tkH 1 rfl (v := ?_) (by kernel_rfl) ?_ hHeld ?_
 rotate_left
 · intro V hSw
   have b0 := ckC hSw 1 rfl 0 rfl
   clear hSw
   first | (go_simp; done) | (go_simp; with_reducible rfl)
 try simp only [sx]
 refine tkH 2 rfl (v := ?_) (by kernel_rfl) ?_ hHeld ?_
 rotate_left
 · intro V hSw
   have b0 := ckC hSw 0 rfl 0 rfl
   clear hSw
   first | (go_simp; done) | (go_simp; with_reducible rfl)
 try simp only [sx]
 refine tkP 3 rfl (v := ?_) hHeld ?_
 try simp only [sx]
 refine tkP 5 rfl (v := ?_) hHeld ?_
 try simp only [sx]
 refine rdH 4 rfl fun K hK => ?_
 go_simp
 refine (open_c Au.zero AuP.zero w1 (Au.zero_at w1)).mono ?_
 rintro e w2 ⟨by_,m3,m4,rfl,hz,HM,hb⟩
 have S2 : Hid (Sep w.heap.size w [eMach by_ m3 m4 Au.zero,eBlk nx 71 [.pointer (some ⟨bx,0,none⟩)],eMach bx m1 m2 (⟨al,n,mr,ed⟩ : Au),eBlk (w.heap.size + 1) 3 [.int .i64 kind],eBlk w.heap.size 35 [.slice A1 al.length c1,.int .i64 n,.slice A2 mr.length c2,.slice A3 ed.length c3]] w2) := S1.out.newMach hb hz.1 hz.2.1 hz.2.2 HM.out
 clear HM hb hz
 refine hK.out _ _ ?_ (fun hHeld => ?_)
 · exact S2.out.pick [1,4] (by decide)
 clear hK K
 try simp only [sx]
 refine rdH 6 rfl fun K hK => ?_
 go_simp
 refine (search_c A1 c1 al bx by_ ⟨al,n,mr,ed⟩ Au.zero 63 #[.pointer (some ⟨nx,0,none⟩),.pointer (some ⟨w.heap.size + 1,0,none⟩)] (fun args w => by rfl) (fun q => inV ⟨al,n,mr,ed⟩ q.1 kind) w2 (HA.out.below S2.out.below).al (Nat.le_trans HRA.out.al.short (by decide)) HRA.out.al.incr HRA.out Au.zero_right ?_ (Mach3.mach (Sep.get S2.out 2 rfl)) (Mach3.mach (Sep.get S2.out 0 rfl)) ?_ rfl).mono ?_
 · have := HRA.out.n1; have := HRA.out.n0; simp only [Au.zero,Int.toNat_zero] at *; omega
 · intro V x y hb
   exact lea1_c nx (w.heap.size + 1) bx ⟨al,n,mr,ed⟩ kind x y V ((old_cell hb (BlkAt.cell (S2.out.get 1 rfl) 0) (BlkAt.lt (S2.out.get 1 rfl)))) ((old_cell hb (BlkAt.cell (S2.out.get 3 rfl) 0) (BlkAt.lt (S2.out.get 3 rfl)))) (Nat.lt_of_lt_of_le (BlkAt.lt (S2.out.get 1 rfl)) hb.size) (Nat.lt_of_lt_of_le (BlkAt.lt (S2.out.get 3 rfl)) hb.size) ((Mach3.mach (Sep.get S2.out 2 rfl)).below hb)
 rintro e w3 ⟨AW,cW,l,f,rfl,HW,hb,HL⟩
 have S3 := Lib.hid (S2.out.next hb)
 clear hb
 refine hK.out _ _ ?_ (fun hHeld => ?_)
 · exact S3.out.pick [1,4] (by decide)
 clear hK K
 try simp only [sx]
 refine tkP 7 rfl (v := ?_) hHeld ?_
 try simp only [sx]
 refine tkP 8 rfl (v := ?_) hHeld ?_
 try simp only [sx]
 refine tkP 9 rfl (v := ?_) hHeld ?_
 try simp only [sx]
 refine tkP 10 rfl (v := ?_) hHeld ?_
 try simp only [sx]
 refine tkP 11 rfl (v := ?_) hHeld ?_
 try simp only [sx]
 refine wpAnyH_done (by kernel_rfl) ?_ _
 go_wp2_with fail
 refine bodyPost_ret (v := .tuple #[.slice AW l.length cW,.bool f,.int .i64 0]) (by simp [results,Tryd.results34,go_sem]) rfl ?_
 exact ⟨AW,cW,l,f,rfl,HW.out,S3.out.below,HL.out⟩
def GivesEy (a : Au) (kind : Int) (w : World) (e : Ending) (w' : World) : Prop := ∃ b : Bool,e = .returned (.tuple #[.bool b,.int .i64 0]) ∧ Below w.heap.size w w' ∧ Hid (b = true ↔ ∀ u,¬ LeadsTo (stp2 a Au.zero) (a.st,Au.zero.st) a.al (fun q => (fun q : Int × Int => inV a q.1 kind) q = true) u)
set_option maxHeartbeats 2000000 in
theorem empty_c (a : Au) (p : AuP) (kind : Int) (w : World) (hA : Au.At w a p) (hr : a.Right) (hk : kind = 1 ∨ kind = 2) :
 Calls Tryd.prog 33 #[a.val p,.int .i64 kind] w (GivesEy a kind w) := by
 have HA := Lib.hid hA
 have HRA := Lib.hid hr
 have HK := Lib.hid hk
 obtain ⟨al,n,mr,ed⟩ := a
 obtain ⟨A1,c1,A2,c2,A3,c3⟩ := p
 dsimp only [Au.val]
 clear hA hr hk
 go_enter Tryd.func33,Tryd.ntmps33
 go_upto_region 1 with fail
 refine wp_world (fun W => Sep w.heap.size w [eBlk w.heap.size 35 [.slice A1 al.length c1,.int .i64 n,.slice A2 mr.length c2,.slice A3 ed.length c3]] W) ?_ fun W S => ?_
 · exact (Sep.here w).alloc' _ [_,_,_,_] rfl rfl
 have S0 := Lib.hid S
 clear S
 have a0 := ckC S0.out 0 rfl 0 rfl
 have a1 := ckC S0.out 0 rfl 1 rfl
 have a2 := ckC S0.out 0 rfl 2 rfl
 have a3 := ckC S0.out 0 rfl 3 rfl
 go_wp2_with fail
 refine (least_c ⟨al,n,mr,ed⟩ ⟨A1,c1,A2,c2,A3,c3⟩ kind W (HA.out.below S0.out.below) HRA.out HK.out).mono ?_
 rintro e w1 ⟨AW,cW,l,f,rfl,HW,hb,HL⟩
 have S1 := Lib.hid (S0.out.next hb)
 clear hb S0 a0 a1 a2 a3
 go_wp2_with fail
 refine bodyPost_ret (v := .tuple #[.bool (!f),.int .i64 0]) (by simp [results,Tryd.results33,go_sem]) rfl ?_
 refine ⟨!f,rfl,S1.out.below,?_⟩
 rcases HL.out with ⟨rfl,h⟩ | ⟨rfl,_,h⟩
 · exact ⟨fun e => (by simp at e),fun g => absurd h.is (g _)⟩
 · exact ⟨fun _ => h,fun _ => rfl⟩
theorem three {P : List Int → Prop} {b f g : Bool} {l m : List Int} (hb : b = true ↔ ∀ u,¬ P u) (hf : f = true ∧ LeastW P l ∨ f = false ∧ l = [] ∧ ∀ u,¬ P u) (hg : g = true ∧ LeastW P m ∨ g = false ∧ m = [] ∧ ∀ u,¬ P u) : b = !g ∧ f = g ∧ l = m := by
 rcases hg with ⟨rfl,h⟩ | ⟨rfl,rfl,h⟩
 · have e : b = false := Bool.eq_false_iff.2 fun e => hb.1 e _ h.is
   rcases hf with ⟨rfl,k⟩ | ⟨_,_,k⟩
   · exact ⟨e,rfl,k.uniq h⟩
   · exact absurd h.is (k _)
 · have e : b = true := hb.2 h
   rcases hf with ⟨_,k⟩ | ⟨rfl,rfl,_⟩
   · exact absurd k.is (h _)
   · exact ⟨e,rfl,rfl⟩
set_option maxHeartbeats 16000000 in
theorem lawLeast_c (s0 : Int) (g0 : Gr) (w : World) (h0 : 0 ≤ s0 ∧ s0 < 256) (hg0 : g0.Ok) (ht : TabW w) :
 Calls Tryd.prog 11 #[.int .u8 s0,g0.val] w (Ret (.bool true) w) := by
 have H0 := Lib.hid h0
 have HG0 := Lib.hid hg0
 have HTAB := Lib.hid ht
 clear h0 hg0 ht
 go_enter Tryd.func11,Tryd.ntmps11
 generalize hcs : g0.cells = cs
 go_upto_region 1 with fail
 refine wp_world (fun W => Sep w.heap.size w [eBlk w.heap.size 27 cs] W) ?_ fun W S => ?_
 · exact (Sep.here w).alloc' _ cs rfl rfl
 rw [← hcs] at S
 have SA := Lib.hid S
 clear S hcs
 go_wp2_with fail
 refine (known_c W (HTAB.out.below SA.out.below)).mono ?_
 rintro e w1 ⟨rfl,hb⟩
 have SB := Lib.hid (SA.out.next hb)
 clear hb SA
 go_upto_region 3 with fail
 go_cut [5] (fun v wx => ∃ (a : Au) (p : AuP) (ta : Nat),v = .pointer (some ⟨ta,0,none⟩) ∧ Hid (Gd s0 a) ∧ Hid (Sep w.heap.size w [eBox ta a p] wx))
 case first =>
  have S1 := Lib.hid SB.out.drew
  refine wp_region_held_drew (S := (fun V => Sep w.heap.size w [eBlk w.heap.size 27 g0.cells] V)) (by kernel_rfl) ?_ (fun hHeld => ?_)
  · exact S1.out.pick [0] (by decide)
  generalize hwz : w1.drew = w1 at *
  clear hwz
  refine tkP 0 rfl (v := ?_) hHeld ?_
  try simp only [sx]
  refine wpAnyH_take (i := 2) (v := _) rfl (by kernel_rfl) (by kernel_rfl) (by kernel_rfl) (fun _ _ _ h => h) (yieldsIf_load_mid (by kernel_rfl) 27 (.tmp 3) rfl w.heap.size 0 rfl g0.cells _ (fun V hSw => BlkAt.rng (Sep.get (show Sep w.heap.size w _ V from hSw) 0 rfl) (fun j v hv => by rw [Nat.zero_add]; exact hv)) Tryd.underlying27 rfl (by kernel_rfl)) hHeld ?_
  try simp only [sx]
  refine wpAnyH_ready (rs := [1,4]) (by kernel_rfl) (by simp) ?_
  refine AllReadyH.cons rfl (fun K hK => ?_) (AllReadyH.cons rfl (fun K hK => ?_) AllReadyH.nil)
  · skip
    go_simp
    refine (events_c s0 w1 H0.out.1 H0.out.2).mono ?_
    rintro e w2 ⟨v,rfl,O,hb⟩
    obtain ⟨AE,cE,rfl⟩ := Own.form O.out
    have S2 : Hid (Sep w.heap.size w [eInts (evV s0 5) (.slice AE (evV s0 5).length cE),eBlk w.heap.size 27 g0.cells] w2) := S1.out.newI O.out hb
    clear O hb
    refine hK.out _ _ ?_ (fun hHeld => ?_)
    · exact S2.out.pick [1] (by decide)
    clear hK K
    try simp only [sx]
    refine wpAnyH_ready (rs := [3,4]) (by kernel_rfl) (by simp) ?_
    refine AllReadyH.cons rfl (fun K hK => ?_) (AllReadyH.cons rfl (fun K hK => ?_) AllReadyH.nil)
    · skip
      go_simp
      refine (make3_c AE cE (evV s0 5) g0 w2 (S2.out.ints 0 rfl) (evV_lt5 s0 5) (fun e => Own.none (S2.out.get 0 rfl) e) HG0.out).mono ?_
      rintro e w3 ⟨a,p,rfl,hr,ha,hn,hed,hmr,HAO,hb⟩
      have FA : Hid (Gd s0 a) := ⟨hr,ha,hn,hed,hmr⟩
      have S3 : Hid (Sep w.heap.size w [eInts a.al (.slice p.A1 a.al.length p.c1),eInts a.mr (.slice p.A2 a.mr.length p.c2),eEds a.ed (.slice p.A3 a.ed.length p.c3),eInts (evV s0 5) (.slice AE (evV s0 5).length cE),eBlk w.heap.size 27 g0.cells] w3) := S2.out.news (AuOwn.sep HAO.out hb)
      clear HAO hb hr ha hn hed hmr
      refine hK.out _ _ ?_ (fun hHeld => ?_)
      · exact S3.out.pick [4] (by decide)
      clear hK K
      try simp only [sx]
      refine rdH 4 rfl fun K hK => ?_
      go_simp
      obtain ⟨ntb,hntb⟩ : ∃ n,n = w3.heap.size := ⟨_,rfl⟩
      obtain ⟨w4,hw4⟩ : ∃ v,v = w3.alloc (.cells #[.slice none 0 0,.int .i64 0,.slice none 0 0,.slice none 0 0] 35) := ⟨_,rfl⟩
      rw [← hw4,← hntb]
      have S4 := ckA S3.out hw4 hntb
      skip
      clear hw4 hntb
      refine hK.out _ _ ?_ (fun hHeld => ?_)
      · exact S4.out.pick [5] (by decide)
      clear hK K
      try simp only [sx]
      refine rdH 5 rfl fun K hK => ?_
      have sc0 := ckC S4.out 0 rfl 0 rfl
      have sf0 := BlkAt.free (S4.out.get 0 rfl) 0
      have sc1 := ckC S4.out 0 rfl 1 rfl
      have sf1 := BlkAt.free (S4.out.get 0 rfl) 1
      have sc2 := ckC S4.out 0 rfl 2 rfl
      have sf2 := BlkAt.free (S4.out.get 0 rfl) 2
      have sc3 := ckC S4.out 0 rfl 3 rfl
      have sf3 := BlkAt.free (S4.out.get 0 rfl) 3
      try dsimp only [Au.val] at *
      go_simp
      obtain ⟨w5,hw5⟩ : ∃ v,v = ((((w4.setCell ⟨ntb,0,none⟩ (.slice p.A1 a.al.length p.c1)).setCell ⟨ntb,1,none⟩ (.int .i64 a.n)).setCell ⟨ntb,2,none⟩ (.slice p.A2 a.mr.length p.c2)).setCell ⟨ntb,3,none⟩ (.slice p.A3 a.ed.length p.c3)) := ⟨_,rfl⟩
      rw [← hw5]
      have S5 : Hid (Sep w.heap.size w [eBlk ntb 35 [.slice p.A1 a.al.length p.c1,.int .i64 a.n,.slice p.A2 a.mr.length p.c2,.slice p.A3 a.ed.length p.c3],eInts a.al (.slice p.A1 a.al.length p.c1),eInts a.mr (.slice p.A2 a.mr.length p.c2),eEds a.ed (.slice p.A3 a.ed.length p.c3),eInts (evV s0 5) (.slice AE (evV s0 5).length cE),eBlk w.heap.size 27 g0.cells] w5) := by rw [hw5]; exact ((((S4.out.set 0 rfl 0 (.slice p.A1 a.al.length p.c1)).set 0 rfl 1 (.int .i64 a.n)).set 0 rfl 2 (.slice p.A2 a.mr.length p.c2)).set 0 rfl 3 (.slice p.A3 a.ed.length p.c3))
      clear hw5 sc0 sf0 sc1 sf1 sc2 sf2 sc3 sf3
      refine hK.out _ _ ?_ (fun hHeld => ?_)
      · exact S5.out.pick [5] (by decide)
      clear hK K
      try simp only [sx]
      refine wpAnyH_done (by kernel_rfl) ?_ _
      have Q1 : Sep w.heap.size w [eBlk ntb 35 [.slice p.A1 a.al.length p.c1,.int .i64 a.n,.slice p.A2 a.mr.length p.c2,.slice p.A3 a.ed.length p.c3],eInts a.al (.slice p.A1 a.al.length p.c1),eInts a.mr (.slice p.A2 a.mr.length p.c2),eEds a.ed (.slice p.A3 a.ed.length p.c3)] w5 := S5.out.pick [0,1,2,3] (by decide)
      have Q2 := Lib.hid Q1.box
      clear Q1
      go_wp2_with fail
      go_meet
      exact ⟨a,p,ntb,rfl,FA.out,Q2.out⟩
    · skip
      go_simp
      obtain ⟨ntb,hntb⟩ : ∃ n,n = w2.heap.size := ⟨_,rfl⟩
      obtain ⟨w6,hw6⟩ : ∃ v,v = w2.alloc (.cells #[.slice none 0 0,.int .i64 0,.slice none 0 0,.slice none 0 0] 35) := ⟨_,rfl⟩
      rw [← hw6,← hntb]
      have S6 := ckA S2.out hw6 hntb
      skip
      clear hw6 hntb
      refine hK.out _ _ ?_ (fun hHeld => ?_)
      · exact S6.out.pick [2] (by decide)
      clear hK K
      try simp only [sx]
      refine rdH 3 rfl fun K hK => ?_
      go_simp
      refine (make3_c AE cE (evV s0 5) g0 w6 (S6.out.ints 1 rfl) (evV_lt5 s0 5) (fun e => Own.none (S6.out.get 1 rfl) e) HG0.out).mono ?_
      rintro e w7 ⟨a,p,rfl,hr,ha,hn,hed,hmr,HAO,hb⟩
      have FA : Hid (Gd s0 a) := ⟨hr,ha,hn,hed,hmr⟩
      have S7 : Hid (Sep w.heap.size w [eInts a.al (.slice p.A1 a.al.length p.c1),eInts a.mr (.slice p.A2 a.mr.length p.c2),eEds a.ed (.slice p.A3 a.ed.length p.c3),eBlk ntb 35 [.slice none 0 0,.int .i64 0,.slice none 0 0,.slice none 0 0],eInts (evV s0 5) (.slice AE (evV s0 5).length cE),eBlk w.heap.size 27 g0.cells] w7) := S6.out.news (AuOwn.sep HAO.out hb)
      clear HAO hb hr ha hn hed hmr
      refine hK.out _ _ ?_ (fun hHeld => ?_)
      · exact S7.out.pick [5] (by decide)
      clear hK K
      try simp only [sx]
      refine rdH 5 rfl fun K hK => ?_
      have sc0 := ckC S7.out 3 rfl 0 rfl
      have sf0 := BlkAt.free (S7.out.get 3 rfl) 0
      have sc1 := ckC S7.out 3 rfl 1 rfl
      have sf1 := BlkAt.free (S7.out.get 3 rfl) 1
      have sc2 := ckC S7.out 3 rfl 2 rfl
      have sf2 := BlkAt.free (S7.out.get 3 rfl) 2
      have sc3 := ckC S7.out 3 rfl 3 rfl
      have sf3 := BlkAt.free (S7.out.get 3 rfl) 3
      try dsimp only [Au.val] at *
      go_simp
      obtain ⟨w8,hw8⟩ : ∃ v,v = ((((w7.setCell ⟨ntb,0,none⟩ (.slice p.A1 a.al.length p.c1)).setCell ⟨ntb,1,none⟩ (.int .i64 a.n)).setCell ⟨ntb,2,none⟩ (.slice p.A2 a.mr.length p.c2)).setCell ⟨ntb,3,none⟩ (.slice p.A3 a.ed.length p.c3)) := ⟨_,rfl⟩
      rw [← hw8]
      have S8 : Hid (Sep w.heap.size w [eInts a.al (.slice p.A1 a.al.length p.c1),eInts a.mr (.slice p.A2 a.mr.length p.c2),eEds a.ed (.slice p.A3 a.ed.length p.c3),eBlk ntb 35 [.slice p.A1 a.al.length p.c1,.int .i64 a.n,.slice p.A2 a.mr.length p.c2,.slice p.A3 a.ed.length p.c3],eInts (evV s0 5) (.slice AE (evV s0 5).length cE),eBlk w.heap.size 27 g0.cells] w8) := by rw [hw8]; exact ((((S7.out.set 3 rfl 0 (.slice p.A1 a.al.length p.c1)).set 3 rfl 1 (.int .i64 a.n)).set 3 rfl 2 (.slice p.A2 a.mr.length p.c2)).set 3 rfl 3 (.slice p.A3 a.ed.length p.c3))
      clear hw8 sc0 sf0 sc1 sf1 sc2 sf2 sc3 sf3
      refine hK.out _ _ ?_ (fun hHeld => ?_)
      · exact S8.out.pick [5] (by decide)
      clear hK K
      try simp only [sx]
      refine wpAnyH_done (by kernel_rfl) ?_ _
      have Q1 : Sep w.heap.size w [eBlk ntb 35 [.slice p.A1 a.al.length p.c1,.int .i64 a.n,.slice p.A2 a.mr.length p.c2,.slice p.A3 a.ed.length p.c3],eInts a.al (.slice p.A1 a.al.length p.c1),eInts a.mr (.slice p.A2 a.mr.length p.c2),eEds a.ed (.slice p.A3 a.ed.length p.c3)] w8 := S8.out.pick [3,0,1,2] (by decide)
      have Q2 := Lib.hid Q1.box
      clear Q1
      go_wp2_with fail
      go_meet
      exact ⟨a,p,ntb,rfl,FA.out,Q2.out⟩
  · skip
    go_simp
    obtain ⟨ntb,hntb⟩ : ∃ n,n = w1.heap.size := ⟨_,rfl⟩
    obtain ⟨w9,hw9⟩ : ∃ v,v = w1.alloc (.cells #[.slice none 0 0,.int .i64 0,.slice none 0 0,.slice none 0 0] 35) := ⟨_,rfl⟩
    rw [← hw9,← hntb]
    have S9 := ckA S1.out hw9 hntb
    skip
    clear hw9 hntb
    refine hK.out _ _ ?_ (fun hHeld => ?_)
    · exact S9.out.pick [1] (by decide)
    clear hK K
    try simp only [sx]
    refine rdH 1 rfl fun K hK => ?_
    go_simp
    refine (events_c s0 w9 H0.out.1 H0.out.2).mono ?_
    rintro e w10 ⟨v,rfl,O,hb⟩
    obtain ⟨AE,cE,rfl⟩ := Own.form O.out
    have S10 : Hid (Sep w.heap.size w [eInts (evV s0 5) (.slice AE (evV s0 5).length cE),eBlk ntb 35 [.slice none 0 0,.int .i64 0,.slice none 0 0,.slice none 0 0],eBlk w.heap.size 27 g0.cells] w10) := S9.out.newI O.out hb
    clear O hb
    refine hK.out _ _ ?_ (fun hHeld => ?_)
    · exact S10.out.pick [2] (by decide)
    clear hK K
    try simp only [sx]
    refine rdH 3 rfl fun K hK => ?_
    go_simp
    refine (make3_c AE cE (evV s0 5) g0 w10 (S10.out.ints 0 rfl) (evV_lt5 s0 5) (fun e => Own.none (S10.out.get 0 rfl) e) HG0.out).mono ?_
    rintro e w11 ⟨a,p,rfl,hr,ha,hn,hed,hmr,HAO,hb⟩
    have FA : Hid (Gd s0 a) := ⟨hr,ha,hn,hed,hmr⟩
    have S11 : Hid (Sep w.heap.size w [eInts a.al (.slice p.A1 a.al.length p.c1),eInts a.mr (.slice p.A2 a.mr.length p.c2),eEds a.ed (.slice p.A3 a.ed.length p.c3),eInts (evV s0 5) (.slice AE (evV s0 5).length cE),eBlk ntb 35 [.slice none 0 0,.int .i64 0,.slice none 0 0,.slice none 0 0],eBlk w.heap.size 27 g0.cells] w11) := S10.out.news (AuOwn.sep HAO.out hb)
    clear HAO hb hr ha hn hed hmr
    refine hK.out _ _ ?_ (fun hHeld => ?_)
    · exact S11.out.pick [5] (by decide)
    clear hK K
    try simp only [sx]
    refine rdH 5 rfl fun K hK => ?_
    have sc0 := ckC S11.out 4 rfl 0 rfl
    have sf0 := BlkAt.free (S11.out.get 4 rfl) 0
    have sc1 := ckC S11.out 4 rfl 1 rfl
    have sf1 := BlkAt.free (S11.out.get 4 rfl) 1
    have sc2 := ckC S11.out 4 rfl 2 rfl
    have sf2 := BlkAt.free (S11.out.get 4 rfl) 2
    have sc3 := ckC S11.out 4 rfl 3 rfl
    have sf3 := BlkAt.free (S11.out.get 4 rfl) 3
    try dsimp only [Au.val] at *
    go_simp
    obtain ⟨w12,hw12⟩ : ∃ v,v = ((((w11.setCell ⟨ntb,0,none⟩ (.slice p.A1 a.al.length p.c1)).setCell ⟨ntb,1,none⟩ (.int .i64 a.n)).setCell ⟨ntb,2,none⟩ (.slice p.A2 a.mr.length p.c2)).setCell ⟨ntb,3,none⟩ (.slice p.A3 a.ed.length p.c3)) := ⟨_,rfl⟩
    rw [← hw12]
    have S12 : Hid (Sep w.heap.size w [eInts a.al (.slice p.A1 a.al.length p.c1),eInts a.mr (.slice p.A2 a.mr.length p.c2),eEds a.ed (.slice p.A3 a.ed.length p.c3),eInts (evV s0 5) (.slice AE (evV s0 5).length cE),eBlk ntb 35 [.slice p.A1 a.al.length p.c1,.int .i64 a.n,.slice p.A2 a.mr.length p.c2,.slice p.A3 a.ed.length p.c3],eBlk w.heap.size 27 g0.cells] w12) := by rw [hw12]; exact ((((S11.out.set 4 rfl 0 (.slice p.A1 a.al.length p.c1)).set 4 rfl 1 (.int .i64 a.n)).set 4 rfl 2 (.slice p.A2 a.mr.length p.c2)).set 4 rfl 3 (.slice p.A3 a.ed.length p.c3))
    clear hw12 sc0 sf0 sc1 sf1 sc2 sf2 sc3 sf3
    refine hK.out _ _ ?_ (fun hHeld => ?_)
    · exact S12.out.pick [5] (by decide)
    clear hK K
    try simp only [sx]
    refine wpAnyH_done (by kernel_rfl) ?_ _
    have Q1 : Sep w.heap.size w [eBlk ntb 35 [.slice p.A1 a.al.length p.c1,.int .i64 a.n,.slice p.A2 a.mr.length p.c2,.slice p.A3 a.ed.length p.c3],eInts a.al (.slice p.A1 a.al.length p.c1),eInts a.mr (.slice p.A2 a.mr.length p.c2),eEds a.ed (.slice p.A3 a.ed.length p.c3)] w12 := S12.out.pick [4,0,1,2] (by decide)
    have Q2 := Lib.hid Q1.box
    clear Q1
    go_wp2_with fail
    go_meet
    exact ⟨a,p,ntb,rfl,FA.out,Q2.out⟩
 case rest =>
  clear SB
  obtain ⟨a,⟨A1,a1,A2,a2,A3,a3⟩,ta,rfl,FA,S1⟩ := hcut
  have HL := Lib.hid FA.out.lens
  have hu : Hid (unionV a.al Au.zero.al = a.al) := union_nil FA.out.rt.al.incr
  go_wp2_with fail
  go_loopw [6,7,8,9,10,11,12,13] (fun x _ _ _ _ _ _ _ wr => ∃ (k : Nat),x = .int .i64 (k : Int) ∧ 1 ≤ k ∧ k ≤ 3 ∧ Hid (Sep w.heap.size w [eBox ta a ⟨A1,a1,A2,a2,A3,a3⟩] wr)) (fun x _ _ _ _ _ _ _ _ => 3 - (intOf x).toNat)
  case atStart => exact ⟨1,rfl,by omega,by omega,S1.out⟩
  case round =>
   clear S1
   obtain ⟨k,rfl,hk1,hk3,S⟩ := hrel
   by_cases hlt : k ≤ 2
   · have hk : (k : Int) = 1 ∨ (k : Int) = 2 := by omega
     have hk2 : decide ((k : Int) ≤ 2) = true := by simp; omega
     have l0 := BlkAt.cell (S.out.get 0 rfl).1 0
     have l1 := BlkAt.cell (S.out.get 0 rfl).1 1
     have l2 := BlkAt.cell (S.out.get 0 rfl).1 2
     have l3 := BlkAt.cell (S.out.get 0 rfl).1 3
     simp only [List.getElem?_cons_succ,List.getElem?_cons_zero] at l0 l1 l2 l3
     go_wp2_with fail
     refine (empty_c a ⟨A1,a1,A2,a2,A3,a3⟩ (k : Int) wr (eBox.at (S.out.get 0 rfl) HL.out) FA.out.rt hk).mono ?_
     rintro e v2 ⟨bb,rfl,hb,HE⟩
     have S2 := Lib.hid (S.out.next hb)
     clear hb S l0 l1 l2 l3
     have l0 := BlkAt.cell (S2.out.get 0 rfl).1 0
     have l1 := BlkAt.cell (S2.out.get 0 rfl).1 1
     have l2 := BlkAt.cell (S2.out.get 0 rfl).1 2
     have l3 := BlkAt.cell (S2.out.get 0 rfl).1 3
     simp only [List.getElem?_cons_succ,List.getElem?_cons_zero] at l0 l1 l2 l3
     go_wp2_with fail
     refine (least_c a ⟨A1,a1,A2,a2,A3,a3⟩ (k : Int) v2 (eBox.at (S2.out.get 0 rfl) HL.out) FA.out.rt hk).mono ?_
     rintro e v3 ⟨AW,cW,l,f,rfl,HW,hb,HF⟩
     have S3 := Lib.hid (S2.out.next hb)
     clear hb S2 l0 l1 l2 l3
     have l0 := BlkAt.cell (S3.out.get 0 rfl).1 0
     have l1 := BlkAt.cell (S3.out.get 0 rfl).1 1
     have l2 := BlkAt.cell (S3.out.get 0 rfl).1 2
     have l3 := BlkAt.cell (S3.out.get 0 rfl).1 3
     simp only [List.getElem?_cons_succ,List.getElem?_cons_zero] at l0 l1 l2 l3
     go_wp2_with fail
     refine (least9_c a ⟨A1,a1,A2,a2,A3,a3⟩ (k : Int) v3 FA.out.rt (eBox.at (S3.out.get 0 rfl) HL.out)).mono ?_
     rintro e v4 ⟨AM,cM,m,g,rfl,HM,hb,hml,HG⟩
     have S4 := Lib.hid (S3.out.next hb)
     have HW2 := Lib.hid (HW.out.below IntE.stays hb)
     have HG2 := HG.out
     rw [hu.out] at HG2
     obtain ⟨rfl,rfl,rfl⟩ := three HE.out HF.out HG2
     clear hb S3 HW HG HE HF HG2 l0 l1 l2 l3
     have hgg : ((!f) == f) = false := by cases f <;> rfl
     have hff : (f == f) = true := by cases f <;> rfl
     go_wp2_with fail
     refine (same_c AW AM cW cM l l v4 HW2.out HM.out (by omega) (by omega)).mono ?_
     intro e v5 hs
     obtain ⟨rfl,hb⟩ := hs.yes2 rfl
     have S5 := Lib.hid (S4.out.next hb)
     clear hb S4
     go_wp2_with fail
     go_roundw
     case rel => exact ⟨k + 1,by go_num,by omega,by omega,S5.out⟩
     case measure => simp [intOf]; omega
   · obtain rfl : k = 3 := by omega
     go_wp2_with fail
     go_ret
     exact ⟨rfl,S.out.below⟩
section
open Go.ChangeShapes Go.WideShapes Go.ChangeAt Go.RowKit
section
variable {H : Type} {enc : TypeId × Value → H} {w : World} {base : Nat} {spare : Nat → Bool} {held : Bool}

theorem u8_bounds {n : Int} (h : (Lit.int .u8 n).wf = true) : 0 ≤ n ∧ n < 256 := by
 simp [Lit.wf,IntKind.min,IntKind.max,IntKind.signed,IntKind.bits] at h; omega
theorem list5 {α : Type} {cs : List α} (h : cs.length = 5) : ∃ c0 c1 c2 c3 c4,cs = [c0,c1,c2,c3,c4] := by
 match cs,h with
 | [c0,c1,c2,c3,c4],_ => exact ⟨c0,c1,c2,c3,c4,rfl⟩
theorem cut5 {α : Type} {cs : List α} (h : cs.length = 25) : cs = (cs.drop 0).take 5 ++ ((cs.drop 5).take 5 ++ ((cs.drop 10).take 5 ++ ((cs.drop 15).take 5 ++ (cs.drop 20).take 5))) := by
 have e4 : (cs.drop 20).take 5 = cs.drop 20 := List.take_of_length_le (by simp [h])
 have e3 : (cs.drop 15).take 5 ++ cs.drop 20 = cs.drop 15 := by have := List.take_append_drop 5 (cs.drop 15); rwa [List.drop_drop] at this
 have e2 : (cs.drop 10).take 5 ++ cs.drop 15 = cs.drop 10 := by have := List.take_append_drop 5 (cs.drop 10); rwa [List.drop_drop] at this
 have e1 : (cs.drop 5).take 5 ++ cs.drop 10 = cs.drop 5 := by have := List.take_append_drop 5 (cs.drop 5); rwa [List.drop_drop] at this
 rw [e4,e3,e2,e1,List.drop_zero,List.take_append_drop]

theorem b5_of {P : Program} {t e : TypeId} (ht : P.underlying t = some (.array 5 e)) (he : P.underlying e = some (.int .u8)) (hc : P.cellsOf t = 5) (hce : P.cellsOf e = 1) {fuel : Nat} {cs : List Value} {x : DataW H × List MemPlace}
 (h : DataW.trod enc P w base spare held fuel t cs = some x) : ∃ f : B5,f.Ok ∧ cs = f.cells := by
 obtain ⟨xs,m,_,_,hl,hlen,hf⟩ := DataW.trod_array ht h
 obtain ⟨c0,c1,c2,c3,c4,rfl⟩ := list5 (hl.trans hc)
 have g : ∀ i,i < 5 → ∀ c,([c0,c1,c2,c3,c4].drop i).take 1 = [c] → ∃ n,c = .int .u8 n ∧ 0 ≤ n ∧ n < 256 := fun i hi c hcc => by
  have h1 := hf i hi
  rw [hce,Nat.mul_one,hcc,List.getElem?_eq_getElem (by omega)] at h1
  obtain ⟨n,hn,_,hw⟩ := DataW.trod_int he h1
  cases hn
  exact ⟨n,rfl,u8_bounds hw⟩
 obtain ⟨x0,rfl,b0⟩ := g 0 (by omega) c0 rfl
 obtain ⟨x1,rfl,b1⟩ := g 1 (by omega) c1 rfl
 obtain ⟨x2,rfl,b2⟩ := g 2 (by omega) c2 rfl
 obtain ⟨x3,rfl,b3⟩ := g 3 (by omega) c3 rfl
 obtain ⟨x4,rfl,b4⟩ := g 4 (by omega) c4 rfl
 exact ⟨⟨x0,x1,x2,x3,x4⟩,⟨fun x hx => by
  simp only [List.mem_cons,List.not_mem_nil,or_false] at hx
  rcases hx with rfl | rfl | rfl | rfl | rfl <;> assumption⟩,rfl⟩

theorem b25_of {P : Program} {t e e' : TypeId} (ht : P.underlying t = some (.array 5 e)) (he : P.underlying e = some (.array 5 e')) (he' : P.underlying e' = some (.int .u8)) (hc : P.cellsOf t = 25) (hce : P.cellsOf e = 5) (hce' : P.cellsOf e' = 1) {fuel : Nat} {cs : List Value} {x : DataW H × List MemPlace}
 (h : DataW.trod enc P w base spare held fuel t cs = some x) : ∃ r0 r1 r2 r3 r4 : B5,r0.Ok ∧ r1.Ok ∧ r2.Ok ∧ r3.Ok ∧ r4.Ok ∧ cs = r0.cells ++ (r1.cells ++ (r2.cells ++ (r3.cells ++ r4.cells))) := by
 obtain ⟨xs,m,_,_,hl,hlen,hf⟩ := DataW.trod_array ht h
 have g : ∀ i,i < 5 → ∃ f : B5,f.Ok ∧ (cs.drop (i * 5)).take 5 = f.cells := fun i hi => by
  have h1 := hf i hi
  rw [hce,List.getElem?_eq_getElem (by omega)] at h1
  exact b5_of he he' hce hce' h1
 obtain ⟨r0,o0,e0⟩ := g 0 (by omega)
 obtain ⟨r1,o1,e1⟩ := g 1 (by omega)
 obtain ⟨r2,o2,e2⟩ := g 2 (by omega)
 obtain ⟨r3,o3,e3⟩ := g 3 (by omega)
 obtain ⟨r4,o4,e4⟩ := g 4 (by omega)
 refine ⟨r0,r1,r2,r3,r4,o0,o1,o2,o3,o4,?_⟩
 rw [← e0,← e1,← e2,← e3,← e4]
 exact cut5 (hl.trans hc)

theorem gr_of {fuel : Nat} {cs : List Value} {x : DataW H × List MemPlace} (h : DataW.trod enc Tryd.prog w base spare held fuel 27 cs = some x) : ∃ g : Gr,g.Ok ∧ cs = g.cells := by
 obtain ⟨xs,n,_,_,hl,hlen,hf⟩ := DataW.trod_struct Tryd.underlying27 h
 have hC : Tryd.prog.cellsOf 27 = 27 := by kernel_rfl
 have c1 : Tryd.prog.cellsOf 5 = 1 := by kernel_rfl
 have c25 : Tryd.prog.cellsOf 25 = 25 := by kernel_rfl
 rw [hC] at hl
 have e3 : xs.length = 3 := hlen
 have h0 : DataW.trod enc Tryd.prog w base spare held n 5 ((cs.drop 0).take (Tryd.prog.cellsOf 5)) = some xs[0] := by
  have := hf 0 _ rfl; rw [List.getElem?_eq_getElem (by omega)] at this; exact this
 rw [c1] at h0
 have h1 : DataW.trod enc Tryd.prog w base spare held n 5 ((cs.drop 1).take (Tryd.prog.cellsOf 5)) = some xs[1] := by
  have := hf 1 _ rfl; rw [List.getElem?_eq_getElem (by omega)] at this; exact this
 rw [c1] at h1
 have h2 : DataW.trod enc Tryd.prog w base spare held n 25 ((cs.drop 2).take (Tryd.prog.cellsOf 25)) = some xs[2] := by
  have := hf 2 _ rfl; rw [List.getElem?_eq_getElem (by omega)] at this; exact this
 rw [c25] at h2
 obtain ⟨s,hs,_,ws⟩ := DataW.trod_int Tryd.underlying5 h0
 obtain ⟨m,hm,_,wm⟩ := DataW.trod_int Tryd.underlying5 h1
 obtain ⟨r0,r1,r2,r3,r4,o0,o1,o2,o3,o4,hr⟩ := b25_of Tryd.underlying25 Tryd.underlying24 Tryd.underlying5 (by kernel_rfl) (by kernel_rfl) (by kernel_rfl) h2
 refine ⟨⟨s,m,r0,r1,r2,r3,r4⟩,⟨u8_bounds ws,u8_bounds wm,o0,o1,o2,o3,o4⟩,?_⟩
 have a0 : cs.drop 0 = (cs.drop 0).take 1 ++ cs.drop 1 := by have := List.take_append_drop 1 (cs.drop 0); rw [List.drop_drop] at this; exact this.symm
 have a1 : cs.drop 1 = (cs.drop 1).take 1 ++ cs.drop 2 := by have := List.take_append_drop 1 (cs.drop 1); rw [List.drop_drop] at this; exact this.symm
 have a2 : (cs.drop 2).take 25 = cs.drop 2 := List.take_of_length_le (by simp [hl])
 rw [hr] at a2
 rw [← a2,hm] at a1
 rw [a1,hs] at a0
 rw [← List.drop_zero (l := cs),a0]
 rfl
theorem gr_in {v : Value} {d : DataW H} {p : List MemPlace} {r : Reach} {b0 : Nat} (hv : Value.okWide Tryd.prog w r b0 27 v) (h : DataW.Trod enc Tryd.prog w base spare held 27 v d p) :
 ∃ g : Gr,v = .agg g.cells.toArray ∧ g.Ok := by
 obtain ⟨⟨cs⟩,rfl,hsz⟩ := okWide_struct Tryd.underlying27 hv
 obtain ⟨fuel,hf0⟩ := h
 have hf : DataW.trod enc Tryd.prog w base spare held fuel 27 cs = some (d,p) := by simpa [Value.cells] using hf0
 obtain ⟨g,og,rfl⟩ := gr_of hf
 exact ⟨g,rfl,og⟩
end
end
end Go.Proofs.YtkifgffhoenaoaaDoor
