/-
  language.Least and Empty at right automata.
  Two things as one; an automaton in a box.
  overseerlaw09.LanguageLaws.
  overseerref03.Run and Accepts.
-/
import Derived.Test.YtkifgffhoenaoaaDoorBas01
import Derived.Test.YtkifgffhoenaoaaDoorBas19
import Derived.Test.YtkifgffhoenaoaaDoorBas16
import Derived.Test.YtkifgffhoenaoaaDoorZtx01
import Derived.Test.YtkifgffhoenaoaaDoorBas09
import Derived.Test.YtkifgffhoenaoaaDoorBas04
import Derived.Test.YtkifgffhoenaoaaDoorBas07
import Derived.BigQuiet
namespace Go.Proofs.YtkifgffhoenaoaaDoor
open Go.RowKit
set_option linter.unusedSimpArgs false
set_option linter.unusedVariables false
set_option maxRecDepth 100000

theorem lea1_c (n1 n2 b1 : Nat) (a : Au) (kind x y : Int) (w : World) (c1 : w.cell? ⟨n1,0,none⟩ = some (.pointer (some ⟨b1,0,none⟩))) (c2 : w.cell? ⟨n2,0,none⟩ = some (.int .i64 kind))
 (z1 : n1 < w.heap.size) (z2 : n2 < w.heap.size) (h1 : Mach w b1 a) :
 Calls Tryd.prog 63 #[.agg #[.int .i64 x,.int .i64 y],.pointer (some ⟨n1,0,none⟩),.pointer (some ⟨n2,0,none⟩)] w (Ret (.bool (inV a x kind)) w) := by
 have B0 : Hid (Below w.heap.size w (w.alloc (.cells #[.int .i64 x,.int .i64 y] 75))) := Below.new _ _
 have H1 := Lib.hid (min_c b1 a x kind (w.alloc (.cells #[.int .i64 x,.int .i64 y] 75)) (h1.below B0.out))
 clear h1
 go_enter Tryd.func63,Tryd.ntmps63
 go_wp2_with fail
 refine H1.out.mono ?_
 rintro e w' ⟨rfl,rfl⟩
 go_wp2
 go_ret
 exact ⟨rfl,B0.out⟩
theorem AuE.one (T : TypeId) (a : Au) (p : AuP) (w : World) (ha : Au.At w a p) : SlAt AuE 4 (w.alloc (.cells (auCells a p).toArray T)) (some ⟨w.heap.size,0,none⟩) [a] := by
 intro _
 have hB := Below.new w (.cells (auCells a p).toArray T)
 refine ⟨w.heap.size,0,rfl,by simp,?_⟩
 intro i x hx
 match i,hx with
 | 0,hx =>
   obtain rfl : a = x := by simpa using hx
   refine ⟨auCells a p,rfl,⟨p,rfl,ha.below hB⟩,fun j v hj => ?_⟩
   refine (new_cell w T _ _ _ rfl).trans ?_
   simp only [Nat.zero_mul,Nat.zero_add]
   exact hj
def GivesLe (a : Au) (kind : Int) (w : World) (e : Ending) (w' : World) : Prop := ∃ (A : Option Addr) (c : Nat) (l : List Int) (f : Bool),e = .returned (.tuple #[.slice A l.length c,.bool f,.int .i64 0]) ∧ Hid (IntsAt w' A l) ∧ Below w.heap.size w w' ∧
 Hid (f = true ∧ LeastW (LeadsTo (stp2 a Au.zero) (a.st,Au.zero.st) a.al (fun q => (fun q : Int × Int => inV a q.1 kind) q = true)) l ∨ f = false ∧ l = [] ∧ ∀ u,¬ LeadsTo (stp2 a Au.zero) (a.st,Au.zero.st) a.al (fun q => (fun q : Int × Int => inV a q.1 kind) q = true) u)
set_option maxHeartbeats 4000000 in
theorem least_c (a : Au) (p : AuP) (kind : Int) (w : World) (hA : Au.At w a p) (hr : a.Right) (hk : kind = 1 ∨ kind = 2) :
 Calls Tryd.prog 34 #[a.val p,.int .i64 kind] w (GivesLe a kind w) := by
 have HA := Lib.hid hA
 have HRA := Lib.hid hr
 have HK := Lib.hid hk
 obtain ⟨al,n,mr,ed⟩ := a
 obtain ⟨A1,c1,A2,c2,A3,c3⟩ := p
 dsimp only [Au.val]
 clear hA hr hk
 go_enter Tryd.func34,Tryd.ntmps34
 go_upto_region 1 with fail
 refine wp_world (fun W => Sep w.heap.size w [eBlk (w.heap.size + 1) 3 [.int .i64 kind],eBlk w.heap.size 35 [.slice A1 al.length c1,.int .i64 n,.slice A2 mr.length c2,.slice A3 ed.length c3]] W) ?_ fun W S => ?_
 · exact ((Sep.here w).alloc' _ [_,_,_,_] rfl rfl).alloc' _ [_] rfl (by simp)
 have S0 := Lib.hid S
 clear S
 have a0 := BlkAt.cell (S0.out.get 1 rfl) 0
 have a1 := BlkAt.cell (S0.out.get 1 rfl) 1
 have a2 := BlkAt.cell (S0.out.get 1 rfl) 2
 have a3 := BlkAt.cell (S0.out.get 1 rfl) 3
 have k0 := BlkAt.cell (S0.out.get 0 rfl) 0
 simp only [List.getElem?_cons_succ,List.getElem?_cons_zero] at a0 a1 a2 a3 k0
 have CK : Hid (SlAt AuE 4 (W.alloc (.cells #[.slice A1 al.length c1,.int .i64 n,.slice A2 mr.length c2,.slice A3 ed.length c3] 35)) (some ⟨W.heap.size,0,none⟩) [⟨al,n,mr,ed⟩]) := AuE.one _ _ ⟨A1,c1,A2,c2,A3,c3⟩ W (HA.out.below S0.out.below)
 have CR : Hid (∀ a,a ∈ [(⟨al,n,mr,ed⟩ : Au)] → a.Right) := fun a h => (List.mem_singleton.1 h) ▸ HRA.out
 go_wp2_with fail
 refine (check_c (some ⟨W.heap.size,0,none⟩) 1 [⟨al,n,mr,ed⟩] kind _ CK.out (by simp) CR.out HK.out).mono ?_
 rintro e w1 ⟨rfl,hb⟩
 have S1 : Hid (Sep w.heap.size w [eBlk (w.heap.size + 1) 3 [.int .i64 kind],eBlk w.heap.size 35 [.slice A1 al.length c1,.int .i64 n,.slice A2 mr.length c2,.slice A3 ed.length c3]] w1) := (S0.out.next (Below.new W _)).next hb
 clear hb CK CR S0 a0 a1 a2 a3 k0
 have a0 := BlkAt.cell (S1.out.get 1 rfl) 0
 have a1 := BlkAt.cell (S1.out.get 1 rfl) 1
 have a2 := BlkAt.cell (S1.out.get 1 rfl) 2
 have a3 := BlkAt.cell (S1.out.get 1 rfl) 3
 simp only [List.getElem?_cons_succ,List.getElem?_cons_zero] at a0 a1 a2 a3
 go_wp2_with fail
 refine (open_c ⟨al,n,mr,ed⟩ ⟨A1,c1,A2,c2,A3,c3⟩ w1 (HA.out.below S1.out.below)).mono ?_
 rintro e w2 ⟨bx,m1,m2,rfl,hz,HM,hb⟩
 have S2 : Hid (Sep w.heap.size w [eMach bx m1 m2 (⟨al,n,mr,ed⟩ : Au),eBlk (w.heap.size + 1) 3 [.int .i64 kind],eBlk w.heap.size 35 [.slice A1 al.length c1,.int .i64 n,.slice A2 mr.length c2,.slice A3 ed.length c3]] w2) := S1.out.newMach hb hz.1 hz.2.1 hz.2.2 HM.out
 clear HM hb hz S1 a0 a1 a2 a3
 obtain ⟨nx,hnx⟩ : ∃ g,g = w2.heap.size := ⟨_,rfl⟩
 go_upto_region 5 with fail
 rw [← hnx]
 refine wp_world (fun V => Sep w.heap.size w [eBlk nx 71 [.pointer (some ⟨bx,0,none⟩)],eMach bx m1 m2 (⟨al,n,mr,ed⟩ : Au),eBlk (w.heap.size + 1) 3 [.int .i64 kind],eBlk w.heap.size 35 [.slice A1 al.length c1,.int .i64 n,.slice A2 mr.length c2,.slice A3 ed.length c3]] V) (S2.out.alloc' _ [_] rfl hnx) fun W5 S' => ?_
 have S5 := Lib.hid S'
 clear S' S2 hnx
 have S1 := Lib.hid S5.out.drew
 refine wp_region_held_drew (S := (fun V => Sep w.heap.size w [eBlk nx 71 [.pointer (some ⟨bx,0,none⟩)],eBlk w.heap.size 35 [.slice A1 al.length c1,.int .i64 n,.slice A2 mr.length c2,.slice A3 ed.length c3]] V)) (by kernel_rfl) ?_ (fun hHeld => ?_)
 · exact S1.out.pick [0,3] (by decide)
 generalize hwz : W5.drew = w1 at *
 clear hwz
 refine tkH 0 rfl (v := ?_) (by kernel_rfl) ?_ hHeld ?_
 rotate_left
 · intro V hSw
   clear hSw
   first | (go_simp; done) | (go_simp; with_reducible rfl)
 try simp only [sx]
 refine tkH 1 rfl (v := ?_) (by kernel_rfl) ?_ hHeld ?_
 rotate_left
 · intro V hSw
   have b0 := BlkAt.cell (Sep.get (show Sep w.heap.size w _ V from hSw) 1 rfl) 0
   simp only [List.getElem?_cons_succ,List.getElem?_cons_zero] at b0
   clear hSw
   first | (go_simp; done) | (go_simp; with_reducible rfl)
 try simp only [sx]
 refine tkH 2 rfl (v := ?_) (by kernel_rfl) ?_ hHeld ?_
 rotate_left
 · intro V hSw
   have b0 := BlkAt.cell (Sep.get (show Sep w.heap.size w _ V from hSw) 0 rfl) 0
   simp only [List.getElem?_cons_succ,List.getElem?_cons_zero] at b0
   clear hSw
   first | (go_simp; done) | (go_simp; with_reducible rfl)
 try simp only [sx]
 refine tkH 3 rfl (v := ?_) (by kernel_rfl) ?_ hHeld ?_
 rotate_left
 · intro V hSw
   clear hSw
   first | (go_simp; done) | (go_simp; with_reducible rfl)
 try simp only [sx]
 refine tkH 5 rfl (v := ?_) (by kernel_rfl) ?_ hHeld ?_
 rotate_left
 · intro V hSw
   clear hSw
   first | (go_simp; done) | (go_simp; with_reducible rfl)
 try simp only [sx]
 refine rdH 4 rfl fun K hK => ?_
 go_simp
 refine (open_c Au.zero AuP.zero w1 (Au.zero_at w1)).mono ?_
 rintro e w2 ⟨by_,m3,m4,rfl,hz,HM,hb⟩
 have S2 : Hid (Sep w.heap.size w [eMach by_ m3 m4 Au.zero,eBlk nx 71 [.pointer (some ⟨bx,0,none⟩)],eMach bx m1 m2 (⟨al,n,mr,ed⟩ : Au),eBlk (w.heap.size + 1) 3 [.int .i64 kind],eBlk w.heap.size 35 [.slice A1 al.length c1,.int .i64 n,.slice A2 mr.length c2,.slice A3 ed.length c3]] w2) := S1.out.newMach hb hz.1 hz.2.1 hz.2.2 HM.out
 clear HM hb hz
 refine hK.out _ _ ?_ (fun hHeld => ?_)
 · exact S2.out.pick [1,4] (by decide)
 clear hK K
 try simp only [sx]
 refine rdH 6 rfl fun K hK => ?_
 go_simp
 refine (search_c A1 c1 al bx by_ ⟨al,n,mr,ed⟩ Au.zero 63 #[.pointer (some ⟨nx,0,none⟩),.pointer (some ⟨w.heap.size + 1,0,none⟩)] (fun args w => by rfl) (fun q => inV ⟨al,n,mr,ed⟩ q.1 kind) w2 (HA.out.below S2.out.below).al (Nat.le_trans HRA.out.al.short (by decide)) HRA.out.al.incr HRA.out Au.zero_right ?_ (Mach3.mach (Sep.get S2.out 2 rfl)) (Mach3.mach (Sep.get S2.out 0 rfl)) ?_ rfl).mono ?_
 · have := HRA.out.n1; have := HRA.out.n0; simp only [Au.zero,Int.toNat_zero] at *; omega
 · intro V x y hb
   exact lea1_c nx (w.heap.size + 1) bx ⟨al,n,mr,ed⟩ kind x y V ((old_cell hb (BlkAt.cell (S2.out.get 1 rfl) 0) (BlkAt.lt (S2.out.get 1 rfl)))) ((old_cell hb (BlkAt.cell (S2.out.get 3 rfl) 0) (BlkAt.lt (S2.out.get 3 rfl)))) (Nat.lt_of_lt_of_le (BlkAt.lt (S2.out.get 1 rfl)) hb.size) (Nat.lt_of_lt_of_le (BlkAt.lt (S2.out.get 3 rfl)) hb.size) ((Mach3.mach (Sep.get S2.out 2 rfl)).below hb)
 rintro e w3 ⟨AW,cW,l,f,rfl,HW,hb,HL⟩
 have S3 : Hid (Sep w.heap.size w [eMach by_ m3 m4 Au.zero,eBlk nx 71 [.pointer (some ⟨bx,0,none⟩)],eMach bx m1 m2 (⟨al,n,mr,ed⟩ : Au),eBlk (w.heap.size + 1) 3 [.int .i64 kind],eBlk w.heap.size 35 [.slice A1 al.length c1,.int .i64 n,.slice A2 mr.length c2,.slice A3 ed.length c3]] w3) := S2.out.next hb
 clear hb
 refine hK.out _ _ ?_ (fun hHeld => ?_)
 · exact S3.out.pick [1,4] (by decide)
 clear hK K
 try simp only [sx]
 refine tkH 7 rfl (v := ?_) (by kernel_rfl) ?_ hHeld ?_
 rotate_left
 · intro V hSw
   clear hSw
   first | (go_simp; done) | (go_simp; with_reducible rfl)
 try simp only [sx]
 refine tkH 8 rfl (v := ?_) (by kernel_rfl) ?_ hHeld ?_
 rotate_left
 · intro V hSw
   clear hSw
   first | (go_simp; done) | (go_simp; with_reducible rfl)
 try simp only [sx]
 refine tkH 9 rfl (v := ?_) (by kernel_rfl) ?_ hHeld ?_
 rotate_left
 · intro V hSw
   clear hSw
   first | (go_simp; done) | (go_simp; with_reducible rfl)
 try simp only [sx]
 refine tkH 10 rfl (v := ?_) (by kernel_rfl) ?_ hHeld ?_
 rotate_left
 · intro V hSw
   clear hSw
   first | (go_simp; done) | (go_simp; with_reducible rfl)
 try simp only [sx]
 refine tkH 11 rfl (v := ?_) (by kernel_rfl) ?_ hHeld ?_
 rotate_left
 · intro V hSw
   clear hSw
   first | (go_simp; done) | (go_simp; with_reducible rfl)
 try simp only [sx]
 refine wpAnyH_done (by kernel_rfl) ?_ _
 go_wp2_with fail
 refine bodyPost_ret (v := .tuple #[.slice AW l.length cW,.bool f,.int .i64 0]) (by simp [results,Tryd.results34,go_sem]) rfl ?_
 exact ⟨AW,cW,l,f,rfl,HW.out,S3.out.below,HL.out⟩
def GivesEy (a : Au) (kind : Int) (w : World) (e : Ending) (w' : World) : Prop := ∃ b : Bool,e = .returned (.tuple #[.bool b,.int .i64 0]) ∧ Below w.heap.size w w' ∧ Hid (b = true ↔ ∀ u,¬ LeadsTo (stp2 a Au.zero) (a.st,Au.zero.st) a.al (fun q => (fun q : Int × Int => inV a q.1 kind) q = true) u)
set_option maxHeartbeats 2000000 in
theorem empty_c (a : Au) (p : AuP) (kind : Int) (w : World) (hA : Au.At w a p) (hr : a.Right) (hk : kind = 1 ∨ kind = 2) :
 Calls Tryd.prog 33 #[a.val p,.int .i64 kind] w (GivesEy a kind w) := by
 have HA := Lib.hid hA
 have HRA := Lib.hid hr
 have HK := Lib.hid hk
 obtain ⟨al,n,mr,ed⟩ := a
 obtain ⟨A1,c1,A2,c2,A3,c3⟩ := p
 dsimp only [Au.val]
 clear hA hr hk
 go_enter Tryd.func33,Tryd.ntmps33
 go_upto_region 1 with fail
 refine wp_world (fun W => Sep w.heap.size w [eBlk w.heap.size 35 [.slice A1 al.length c1,.int .i64 n,.slice A2 mr.length c2,.slice A3 ed.length c3]] W) ?_ fun W S => ?_
 · exact (Sep.here w).alloc' _ [_,_,_,_] rfl rfl
 have S0 := Lib.hid S
 clear S
 have a0 := BlkAt.cell (S0.out.get 0 rfl) 0
 have a1 := BlkAt.cell (S0.out.get 0 rfl) 1
 have a2 := BlkAt.cell (S0.out.get 0 rfl) 2
 have a3 := BlkAt.cell (S0.out.get 0 rfl) 3
 simp only [List.getElem?_cons_succ,List.getElem?_cons_zero] at a0 a1 a2 a3
 go_wp2_with fail
 refine (least_c ⟨al,n,mr,ed⟩ ⟨A1,c1,A2,c2,A3,c3⟩ kind W (HA.out.below S0.out.below) HRA.out HK.out).mono ?_
 rintro e w1 ⟨AW,cW,l,f,rfl,HW,hb,HL⟩
 have S1 := Lib.hid (S0.out.next hb)
 clear hb S0 a0 a1 a2 a3
 go_wp2_with fail
 refine bodyPost_ret (v := .tuple #[.bool (!f),.int .i64 0]) (by simp [results,Tryd.results33,go_sem]) rfl ?_
 refine ⟨!f,rfl,S1.out.below,?_⟩
 rcases HL.out with ⟨rfl,h⟩ | ⟨rfl,_,h⟩
 · exact ⟨fun e => (by simp at e),fun g => absurd h.is (g _)⟩
 · exact ⟨fun _ => h,fun _ => rfl⟩
end Go.Proofs.YtkifgffhoenaoaaDoor

namespace Go.Proofs.YtkifgffhoenaoaaDoor
open Go.RowKit
set_option linter.unusedSimpArgs false
set_option linter.unusedVariables false
set_option maxRecDepth 100000

def Ent.and (e f : Ent) : Ent where
 foot := e.foot ++ f.foot
 ok w := e.ok w ∧ f.ok w
 lt w h g hg := (List.mem_append.1 hg).elim (e.lt w h.1 g) (f.lt w h.2 g)
 turn w w' h hg := ⟨e.turn w w' h.1 fun g k => hg g (List.mem_append_left _ k),f.turn w w' h.2 fun g k => hg g (List.mem_append_right _ k)⟩
theorem Sep.join {n : Nat} {w0 w : World} {e f : Ent} {es : List Ent} (S : Sep n w0 (e :: f :: es) w) : Sep n w0 (e.and f :: es) w := by
 have ap := S.ap
 rw [List.pairwise_cons,List.pairwise_cons] at ap
 refine ⟨S.fro,fun x hx => ?_,fun x hx => ?_,List.pairwise_cons.2 ⟨fun x hx g hg => ?_,ap.2.2⟩⟩
 · rcases List.mem_cons.1 hx with rfl | hx
   · exact ⟨S.ok e (by simp),S.ok f (by simp)⟩
   · exact S.ok x (by simp [hx])
 · rcases List.mem_cons.1 hx with rfl | hx
   · exact fun g hg => (List.mem_append.1 hg).elim (S.ge e (by simp) g) (S.ge f (by simp) g)
   · exact S.ge x (by simp [hx])
 · rcases List.mem_append.1 hg with h | h
   · exact ap.1 x (by simp [hx]) g h
   · exact ap.2.1 x hx g h
def eBox (t : Nat) (a : Au) (p : AuP) : Ent := (eBlk t 35 [.slice p.A1 a.al.length p.c1,.int .i64 a.n,.slice p.A2 a.mr.length p.c2,.slice p.A3 a.ed.length p.c3]).and ((eInts a.al (.slice p.A1 a.al.length p.c1)).and ((eInts a.mr (.slice p.A2 a.mr.length p.c2)).and (eEds a.ed (.slice p.A3 a.ed.length p.c3))))
theorem Sep.box {n : Nat} {w0 w : World} {t : Nat} {a : Au} {p : AuP} {es : List Ent} (S : Sep n w0 (eBlk t 35 [.slice p.A1 a.al.length p.c1,.int .i64 a.n,.slice p.A2 a.mr.length p.c2,.slice p.A3 a.ed.length p.c3] :: eInts a.al (.slice p.A1 a.al.length p.c1) :: eInts a.mr (.slice p.A2 a.mr.length p.c2) :: eEds a.ed (.slice p.A3 a.ed.length p.c3) :: es) w) : Sep n w0 (eBox t a p :: es) w := by
 have ap := S.ap
 simp only [List.pairwise_cons] at ap
 refine ⟨S.fro,fun x hx => ?_,fun x hx => ?_,List.pairwise_cons.2 ⟨fun x hx g hg => ?_,ap.2.2.2.2⟩⟩
 · rcases List.mem_cons.1 hx with rfl | hx
   · exact ⟨S.ok _ (by simp),S.ok _ (by simp),S.ok _ (by simp),S.ok _ (by simp)⟩
   · exact S.ok x (by simp [hx])
 · rcases List.mem_cons.1 hx with rfl | hx
   · intro g hg
     rcases List.mem_append.1 hg with h | h
     · exact S.ge _ (by simp) g h
     rcases List.mem_append.1 h with h | h
     · exact S.ge (eInts a.al (.slice p.A1 a.al.length p.c1)) (by simp) g h
     rcases List.mem_append.1 h with h | h
     · exact S.ge (eInts a.mr (.slice p.A2 a.mr.length p.c2)) (by simp) g h
     · exact S.ge (eEds a.ed (.slice p.A3 a.ed.length p.c3)) (by simp) g h
   · exact S.ge x (by simp [hx])
 · rcases List.mem_append.1 hg with h | h
   · exact ap.1 x (by simp [hx]) g h
   rcases List.mem_append.1 h with h | h
   · exact ap.2.1 x (by simp [hx]) g h
   rcases List.mem_append.1 h with h | h
   · exact ap.2.2.1 x (by simp [hx]) g h
   · exact ap.2.2.2.1 x hx g h
theorem eBox.at {t : Nat} {a : Au} {p : AuP} {w : World} (h : (eBox t a p).ok w) (hl : Lens a) : Au.At w a p :=
 ⟨OwnI.ints h.2.1,OwnI.ints h.2.2.1,Own.reads (enc := Ed.cells) (k := 3) (T := 87) (B := 0) (fun _ => rfl) h.2.2.2,hl.1,hl.2.1,hl.2.2⟩
theorem eBox.caps {t : Nat} {a : Au} {p : AuP} {w : World} (h : (eBox t a p).ok w) : Caps a p := ⟨Own.cap h.2.1,Own.cap h.2.2.1,Own.cap h.2.2.2⟩
end Go.Proofs.YtkifgffhoenaoaaDoor

namespace Go.Proofs.YtkifgffhoenaoaaDoor
open Go.RowKit
set_option linter.unusedSimpArgs false
set_option linter.unusedVariables false
set_option maxRecDepth 100000

set_option maxHeartbeats 8000000 in
theorem laws_c (s0 s1 : Int) (g0 g1 : Gr) (w : World) (h0 : 0 ≤ s0 ∧ s0 < 256) (h1 : 0 ≤ s1 ∧ s1 < 256) (hg0 : g0.Ok) (hg1 : g1.Ok) (ht : TabW w) :
 Calls Tryd.prog 12 #[.agg (twoCells s0 s1 g0 g1).toArray] w (Ret (.bool true) w) := by
 have H0 := Lib.hid h0
 have HG0 := Lib.hid hg0
 have HG1 := Lib.hid hg1
 have HTAB := Lib.hid ht
 clear h0 h1 hg0 hg1 ht
 go_enter Tryd.func12,Tryd.ntmps12
 generalize hcs : twoCells s0 s1 g0 g1 = cs
 go_upto_region 1 with fail
 refine wp_world (fun W => Sep w.heap.size w [eBlk w.heap.size 30 cs] W) ?_ fun W S => ?_
 · exact (Sep.here w).alloc' _ cs rfl rfl
 rw [← hcs] at S
 have SA := Lib.hid S
 clear S hcs
 go_wp2_with fail
 refine (known_c W (HTAB.out.below SA.out.below)).mono ?_
 rintro e w1 ⟨rfl,hb⟩
 have SB : Hid (Sep w.heap.size w [eBlk w.heap.size 30 (twoCells s0 s1 g0 g1)] w1) := SA.out.next hb
 clear hb SA
 have q0 := BlkAt.cell (SB.out.get 0 rfl) 0
 rw [show (twoCells s0 s1 g0 g1)[0]? = some (.int .u8 s0) from rfl] at q0
 have q1 := BlkAt.cell (SB.out.get 0 rfl) 1
 rw [show (twoCells s0 s1 g0 g1)[1]? = some (.int .u8 s1) from rfl] at q1
 have f1 := BlkAt.free (SB.out.get 0 rfl) 1
 go_upto_region 4 with fail
 refine wp_world (fun V => Sep w.heap.size w [eBlk w.heap.size 30 (twoCells s0 s0 g0 g1)] V) (SB.out.set 0 rfl 1 (.int .u8 s0)) fun W2 S' => ?_
 have SC := Lib.hid S'
 clear S' SB q0 q1 f1
 go_wp2_with (refine wpList_load_mid rfl 30 (.tmp 1) rfl w.heap.size 0 rfl (twoCells s0 s0 g0 g1) _ (BlkAt.rng (SC.out.get 0 rfl) (fun j v hv => by rw [Nat.zero_add]; exact hv)) Tryd.underlying30 rfl (by kernel_rfl) ?_)
 refine (make9_c s0 s0 g0 g1 W2 H0.out H0.out HG0.out HG1.out).mono ?_
 rintro e w3 ⟨a,⟨A1,a1,A2,a2,A3,a3⟩,b,⟨B1,b1,B2,b2,B3,b3⟩,rfl,TT,GA,GB⟩
 have SD : Hid (Sep w.heap.size w [eInts a.al (.slice A1 a.al.length a1),eInts a.mr (.slice A2 a.mr.length a2),eEds a.ed (.slice A3 a.ed.length a3),eInts b.al (.slice B1 b.al.length b1),eInts b.mr (.slice B2 b.mr.length b2),eEds b.ed (.slice B3 b.ed.length b3),eBlk w.heap.size 30 (twoCells s0 s0 g0 g1)] w3) := SC.out.news TT.out
 clear TT SC
 dsimp only [Au.val]
 obtain ⟨ta,hta⟩ : ∃ g,g = w3.heap.size := ⟨_,rfl⟩
 go_upto_region 5 with fail
 rw [← hta]
 refine wp_world (fun V => Sep w.heap.size w [eBlk (ta + 1) 35 [.slice B1 b.al.length b1,.int .i64 b.n,.slice B2 b.mr.length b2,.slice B3 b.ed.length b3],eBlk ta 35 [.slice A1 a.al.length a1,.int .i64 a.n,.slice A2 a.mr.length a2,.slice A3 a.ed.length a3],eInts a.al (.slice A1 a.al.length a1),eInts a.mr (.slice A2 a.mr.length a2),eEds a.ed (.slice A3 a.ed.length a3),eInts b.al (.slice B1 b.al.length b1),eInts b.mr (.slice B2 b.mr.length b2),eEds b.ed (.slice B3 b.ed.length b3),eBlk w.heap.size 30 (twoCells s0 s0 g0 g1)] V) ((SD.out.alloc' _ [_,_,_,_] rfl hta).alloc' _ [_,_,_,_] rfl (by rw [hta]; simp)) fun W0 S' => ?_
 have Q1 : Sep w.heap.size w [eBlk (ta + 1) 35 [.slice B1 b.al.length b1,.int .i64 b.n,.slice B2 b.mr.length b2,.slice B3 b.ed.length b3],eInts b.al (.slice B1 b.al.length b1),eInts b.mr (.slice B2 b.mr.length b2),eEds b.ed (.slice B3 b.ed.length b3),eBlk ta 35 [.slice A1 a.al.length a1,.int .i64 a.n,.slice A2 a.mr.length a2,.slice A3 a.ed.length a3],eInts a.al (.slice A1 a.al.length a1),eInts a.mr (.slice A2 a.mr.length a2),eEds a.ed (.slice A3 a.ed.length a3)] W0 := S'.pick [0,5,6,7,1,2,3,4] (by decide)
 have Q2 : Sep w.heap.size w [eBox (ta + 1) b ⟨B1,b1,B2,b2,B3,b3⟩,eBlk ta 35 [.slice A1 a.al.length a1,.int .i64 a.n,.slice A2 a.mr.length a2,.slice A3 a.ed.length a3],eInts a.al (.slice A1 a.al.length a1),eInts a.mr (.slice A2 a.mr.length a2),eEds a.ed (.slice A3 a.ed.length a3)] W0 := Q1.box
 have Q3 : Sep w.heap.size w [eBlk ta 35 [.slice A1 a.al.length a1,.int .i64 a.n,.slice A2 a.mr.length a2,.slice A3 a.ed.length a3],eInts a.al (.slice A1 a.al.length a1),eInts a.mr (.slice A2 a.mr.length a2),eEds a.ed (.slice A3 a.ed.length a3),eBox (ta + 1) b ⟨B1,b1,B2,b2,B3,b3⟩] W0 := Q2.pick [1,2,3,4,0] (by decide)
 have S0 : Hid (Sep w.heap.size w [eBox ta a ⟨A1,a1,A2,a2,A3,a3⟩,eBox (ta + 1) b ⟨B1,b1,B2,b2,B3,b3⟩] W0) := Q3.box
 clear S' SD hta Q1 Q2 Q3
 have HLa := Lib.hid GA.out.lens
 have HLb := Lib.hid GB.out.lens
 have na : a.n.toNat ≤ 5 := by have := GA.out.n; omega
 have nb : b.n.toNat ≤ 5 := by have := GB.out.n; omega
 have la0 := BlkAt.cell (S0.out.get 0 rfl).1 0
 have la1 := BlkAt.cell (S0.out.get 0 rfl).1 1
 have la2 := BlkAt.cell (S0.out.get 0 rfl).1 2
 have la3 := BlkAt.cell (S0.out.get 0 rfl).1 3
 simp only [List.getElem?_cons_succ,List.getElem?_cons_zero] at la0 la1 la2 la3
 go_wp2_with fail
 refine (complement_c a ⟨A1,a1,A2,a2,A3,a3⟩ W0 (HTAB.out.below S0.out.below) GA.out.rt (eBox.caps (S0.out.get 0 rfl)) (eBox.at (S0.out.get 0 rfl) HLa.out)).mono ?_
 rintro e w1 ⟨p,⟨P1,p1,P2,p2,P3,p3⟩,r,rfl,TT,HLp,RR⟩
 obtain ⟨rfl,hm,hal,hsz⟩ := RR.out.got GA.out.rt Au.zero_right (x := 5) (y := 0) na (by decide) (by decide)
 have HMp := Lib.hid hm
 have HAp := Lib.hid hal
 have HSp := Lib.hid hsz
 have T1 : Hid (Sep w.heap.size w [eInts p.al (.slice P1 p.al.length p1),eInts p.mr (.slice P2 p.mr.length p2),eEds p.ed (.slice P3 p.ed.length p3),eBox ta a ⟨A1,a1,A2,a2,A3,a3⟩,eBox (ta + 1) b ⟨B1,b1,B2,b2,B3,b3⟩] w1) := S0.out.news TT.out
 clear TT RR hm hal hsz la0 la1 la2 la3 S0
 dsimp only [Au.val]
 obtain ⟨tp,ht⟩ : ∃ g,g = w1.heap.size := ⟨_,rfl⟩
 go_upto_region 6 with fail
 rw [← ht]
 refine wp_world (fun V => Sep w.heap.size w [eBlk tp 35 [.slice P1 p.al.length p1,.int .i64 p.n,.slice P2 p.mr.length p2,.slice P3 p.ed.length p3],eInts p.al (.slice P1 p.al.length p1),eInts p.mr (.slice P2 p.mr.length p2),eEds p.ed (.slice P3 p.ed.length p3),eBox ta a ⟨A1,a1,A2,a2,A3,a3⟩,eBox (ta + 1) b ⟨B1,b1,B2,b2,B3,b3⟩] V) (T1.out.alloc' _ [_,_,_,_] rfl ht) fun W1 S' => ?_
 have S1 : Hid (Sep w.heap.size w [eBox tp p ⟨P1,p1,P2,p2,P3,p3⟩,eBox ta a ⟨A1,a1,A2,a2,A3,a3⟩,eBox (ta + 1) b ⟨B1,b1,B2,b2,B3,b3⟩] W1) := S'.box
 clear S' T1 ht
 have lb0 := BlkAt.cell (S1.out.get 2 rfl).1 0
 have lb1 := BlkAt.cell (S1.out.get 2 rfl).1 1
 have lb2 := BlkAt.cell (S1.out.get 2 rfl).1 2
 have lb3 := BlkAt.cell (S1.out.get 2 rfl).1 3
 simp only [List.getElem?_cons_succ,List.getElem?_cons_zero] at lb0 lb1 lb2 lb3
 go_wp2_with fail
 refine (complement_c b ⟨B1,b1,B2,b2,B3,b3⟩ W1 (HTAB.out.below S1.out.below) GB.out.rt (eBox.caps (S1.out.get 2 rfl)) (eBox.at (S1.out.get 2 rfl) HLb.out)).mono ?_
 rintro e w2 ⟨q,⟨Q1,q1,Q2,q2,Q3,q3⟩,r,rfl,TT,HLq,RR⟩
 obtain ⟨rfl,hm,hal,hsz⟩ := RR.out.got GB.out.rt Au.zero_right (x := 5) (y := 0) nb (by decide) (by decide)
 have HMq := Lib.hid hm
 have HAq := Lib.hid hal
 have HSq := Lib.hid hsz
 have T2 : Hid (Sep w.heap.size w [eInts q.al (.slice Q1 q.al.length q1),eInts q.mr (.slice Q2 q.mr.length q2),eEds q.ed (.slice Q3 q.ed.length q3),eBox tp p ⟨P1,p1,P2,p2,P3,p3⟩,eBox ta a ⟨A1,a1,A2,a2,A3,a3⟩,eBox (ta + 1) b ⟨B1,b1,B2,b2,B3,b3⟩] w2) := S1.out.news TT.out
 clear TT RR hm hal hsz lb0 lb1 lb2 lb3 S1
 dsimp only [Au.val]
 obtain ⟨tq,ht⟩ : ∃ g,g = w2.heap.size := ⟨_,rfl⟩
 go_upto_region 7 with fail
 rw [← ht]
 refine wp_world (fun V => Sep w.heap.size w [eBlk tq 35 [.slice Q1 q.al.length q1,.int .i64 q.n,.slice Q2 q.mr.length q2,.slice Q3 q.ed.length q3],eInts q.al (.slice Q1 q.al.length q1),eInts q.mr (.slice Q2 q.mr.length q2),eEds q.ed (.slice Q3 q.ed.length q3),eBox tp p ⟨P1,p1,P2,p2,P3,p3⟩,eBox ta a ⟨A1,a1,A2,a2,A3,a3⟩,eBox (ta + 1) b ⟨B1,b1,B2,b2,B3,b3⟩] V) (T2.out.alloc' _ [_,_,_,_] rfl ht) fun W2 S' => ?_
 have S2 : Hid (Sep w.heap.size w [eBox tq q ⟨Q1,q1,Q2,q2,Q3,q3⟩,eBox tp p ⟨P1,p1,P2,p2,P3,p3⟩,eBox ta a ⟨A1,a1,A2,a2,A3,a3⟩,eBox (ta + 1) b ⟨B1,b1,B2,b2,B3,b3⟩] W2) := S'.box
 clear S' T2 ht
 have la0 := BlkAt.cell (S2.out.get 2 rfl).1 0
 have la1 := BlkAt.cell (S2.out.get 2 rfl).1 1
 have la2 := BlkAt.cell (S2.out.get 2 rfl).1 2
 have la3 := BlkAt.cell (S2.out.get 2 rfl).1 3
 have lb0 := BlkAt.cell (S2.out.get 3 rfl).1 0
 have lb1 := BlkAt.cell (S2.out.get 3 rfl).1 1
 have lb2 := BlkAt.cell (S2.out.get 3 rfl).1 2
 have lb3 := BlkAt.cell (S2.out.get 3 rfl).1 3
 simp only [List.getElem?_cons_succ,List.getElem?_cons_zero] at la0 la1 la2 la3 lb0 lb1 lb2 lb3
 go_wp2_with fail
 refine (unionL_c a b ⟨A1,a1,A2,a2,A3,a3⟩ ⟨B1,b1,B2,b2,B3,b3⟩ W2 (HTAB.out.below S2.out.below) GA.out.rt GB.out.rt (eBox.caps (S2.out.get 2 rfl)) (eBox.caps (S2.out.get 3 rfl)) (eBox.at (S2.out.get 2 rfl) HLa.out) (eBox.at (S2.out.get 3 rfl) HLb.out)).mono ?_
 rintro e w3 ⟨u,⟨U1,u1,U2,u2,U3,u3⟩,r,rfl,TT,HLu,RR⟩
 obtain ⟨rfl,hm,hal,hsz⟩ := RR.out.got GA.out.rt GB.out.rt (x := 5) (y := 5) na nb (by decide)
 have HMu := Lib.hid hm
 have HAu := Lib.hid hal
 have HSu := Lib.hid hsz
 have T3 : Hid (Sep w.heap.size w [eInts u.al (.slice U1 u.al.length u1),eInts u.mr (.slice U2 u.mr.length u2),eEds u.ed (.slice U3 u.ed.length u3),eBox tq q ⟨Q1,q1,Q2,q2,Q3,q3⟩,eBox tp p ⟨P1,p1,P2,p2,P3,p3⟩,eBox ta a ⟨A1,a1,A2,a2,A3,a3⟩,eBox (ta + 1) b ⟨B1,b1,B2,b2,B3,b3⟩] w3) := S2.out.news TT.out
 clear TT RR hm hal hsz la0 la1 la2 la3 lb0 lb1 lb2 lb3 S2
 dsimp only [Au.val]
 obtain ⟨tu,ht⟩ : ∃ g,g = w3.heap.size := ⟨_,rfl⟩
 go_upto_region 8 with fail
 rw [← ht]
 refine wp_world (fun V => Sep w.heap.size w [eBlk tu 35 [.slice U1 u.al.length u1,.int .i64 u.n,.slice U2 u.mr.length u2,.slice U3 u.ed.length u3],eInts u.al (.slice U1 u.al.length u1),eInts u.mr (.slice U2 u.mr.length u2),eEds u.ed (.slice U3 u.ed.length u3),eBox tq q ⟨Q1,q1,Q2,q2,Q3,q3⟩,eBox tp p ⟨P1,p1,P2,p2,P3,p3⟩,eBox ta a ⟨A1,a1,A2,a2,A3,a3⟩,eBox (ta + 1) b ⟨B1,b1,B2,b2,B3,b3⟩] V) (T3.out.alloc' _ [_,_,_,_] rfl ht) fun W3 S' => ?_
 have S3 : Hid (Sep w.heap.size w [eBox tu u ⟨U1,u1,U2,u2,U3,u3⟩,eBox tq q ⟨Q1,q1,Q2,q2,Q3,q3⟩,eBox tp p ⟨P1,p1,P2,p2,P3,p3⟩,eBox ta a ⟨A1,a1,A2,a2,A3,a3⟩,eBox (ta + 1) b ⟨B1,b1,B2,b2,B3,b3⟩] W3) := S'.box
 clear S' T3 ht
 have lu0 := BlkAt.cell (S3.out.get 0 rfl).1 0
 have lu1 := BlkAt.cell (S3.out.get 0 rfl).1 1
 have lu2 := BlkAt.cell (S3.out.get 0 rfl).1 2
 have lu3 := BlkAt.cell (S3.out.get 0 rfl).1 3
 simp only [List.getElem?_cons_succ,List.getElem?_cons_zero] at lu0 lu1 lu2 lu3
 go_wp2_with fail
 refine (complement_c u ⟨U1,u1,U2,u2,U3,u3⟩ W3 (HTAB.out.below S3.out.below) HMu.out.rt (eBox.caps (S3.out.get 0 rfl)) (eBox.at (S3.out.get 0 rfl) HLu.out)).mono ?_
 rintro e w4 ⟨l,⟨L1,l1,L2,l2,L3,l3⟩,r,rfl,TT,HLl,RR⟩
 obtain ⟨rfl,hm,hal,hsz⟩ := RR.out.got HMu.out.rt Au.zero_right (x := 36) (y := 0) HSu.out (by decide) (by decide)
 have HMl := Lib.hid hm
 have HAl := Lib.hid hal
 have HSl := Lib.hid hsz
 have T4 : Hid (Sep w.heap.size w [eInts l.al (.slice L1 l.al.length l1),eInts l.mr (.slice L2 l.mr.length l2),eEds l.ed (.slice L3 l.ed.length l3),eBox tu u ⟨U1,u1,U2,u2,U3,u3⟩,eBox tq q ⟨Q1,q1,Q2,q2,Q3,q3⟩,eBox tp p ⟨P1,p1,P2,p2,P3,p3⟩,eBox ta a ⟨A1,a1,A2,a2,A3,a3⟩,eBox (ta + 1) b ⟨B1,b1,B2,b2,B3,b3⟩] w4) := S3.out.news TT.out
 clear TT RR hm hal hsz lu0 lu1 lu2 lu3 S3
 dsimp only [Au.val]
 obtain ⟨tl,ht⟩ : ∃ g,g = w4.heap.size := ⟨_,rfl⟩
 go_upto_region 9 with fail
 rw [← ht]
 refine wp_world (fun V => Sep w.heap.size w [eBlk tl 35 [.slice L1 l.al.length l1,.int .i64 l.n,.slice L2 l.mr.length l2,.slice L3 l.ed.length l3],eInts l.al (.slice L1 l.al.length l1),eInts l.mr (.slice L2 l.mr.length l2),eEds l.ed (.slice L3 l.ed.length l3),eBox tu u ⟨U1,u1,U2,u2,U3,u3⟩,eBox tq q ⟨Q1,q1,Q2,q2,Q3,q3⟩,eBox tp p ⟨P1,p1,P2,p2,P3,p3⟩,eBox ta a ⟨A1,a1,A2,a2,A3,a3⟩,eBox (ta + 1) b ⟨B1,b1,B2,b2,B3,b3⟩] V) (T4.out.alloc' _ [_,_,_,_] rfl ht) fun W4 S' => ?_
 have S4 : Hid (Sep w.heap.size w [eBox tl l ⟨L1,l1,L2,l2,L3,l3⟩,eBox tu u ⟨U1,u1,U2,u2,U3,u3⟩,eBox tq q ⟨Q1,q1,Q2,q2,Q3,q3⟩,eBox tp p ⟨P1,p1,P2,p2,P3,p3⟩,eBox ta a ⟨A1,a1,A2,a2,A3,a3⟩,eBox (ta + 1) b ⟨B1,b1,B2,b2,B3,b3⟩] W4) := S'.box
 clear S' T4 ht
 have lp0 := BlkAt.cell (S4.out.get 3 rfl).1 0
 have lp1 := BlkAt.cell (S4.out.get 3 rfl).1 1
 have lp2 := BlkAt.cell (S4.out.get 3 rfl).1 2
 have lp3 := BlkAt.cell (S4.out.get 3 rfl).1 3
 have lq0 := BlkAt.cell (S4.out.get 2 rfl).1 0
 have lq1 := BlkAt.cell (S4.out.get 2 rfl).1 1
 have lq2 := BlkAt.cell (S4.out.get 2 rfl).1 2
 have lq3 := BlkAt.cell (S4.out.get 2 rfl).1 3
 simp only [List.getElem?_cons_succ,List.getElem?_cons_zero] at lp0 lp1 lp2 lp3 lq0 lq1 lq2 lq3
 go_wp2_with fail
 refine (intersect_c p q ⟨P1,p1,P2,p2,P3,p3⟩ ⟨Q1,q1,Q2,q2,Q3,q3⟩ W4 (HTAB.out.below S4.out.below) HMp.out.rt HMq.out.rt (eBox.caps (S4.out.get 3 rfl)) (eBox.caps (S4.out.get 2 rfl)) (eBox.at (S4.out.get 3 rfl) HLp.out) (eBox.at (S4.out.get 2 rfl) HLq.out)).mono ?_
 rintro e w5 ⟨r,⟨R1,r1,R2,r2,R3,r3⟩,r,rfl,TT,HLr,RR⟩
 obtain ⟨rfl,hm,hal,hsz⟩ := RR.out.got HMp.out.rt HMq.out.rt (x := 6) (y := 6) HSp.out HSq.out (by decide)
 have HMr := Lib.hid hm
 have HAr := Lib.hid hal
 have HSr := Lib.hid hsz
 have T5 : Hid (Sep w.heap.size w [eInts r.al (.slice R1 r.al.length r1),eInts r.mr (.slice R2 r.mr.length r2),eEds r.ed (.slice R3 r.ed.length r3),eBox tl l ⟨L1,l1,L2,l2,L3,l3⟩,eBox tu u ⟨U1,u1,U2,u2,U3,u3⟩,eBox tq q ⟨Q1,q1,Q2,q2,Q3,q3⟩,eBox tp p ⟨P1,p1,P2,p2,P3,p3⟩,eBox ta a ⟨A1,a1,A2,a2,A3,a3⟩,eBox (ta + 1) b ⟨B1,b1,B2,b2,B3,b3⟩] w5) := S4.out.news TT.out
 clear TT RR hm hal hsz lp0 lp1 lp2 lp3 lq0 lq1 lq2 lq3 S4
 dsimp only [Au.val]
 obtain ⟨tr,ht⟩ : ∃ g,g = w5.heap.size := ⟨_,rfl⟩
 go_upto_region 10 with fail
 rw [← ht]
 refine wp_world (fun V => Sep w.heap.size w [eBlk tr 35 [.slice R1 r.al.length r1,.int .i64 r.n,.slice R2 r.mr.length r2,.slice R3 r.ed.length r3],eInts r.al (.slice R1 r.al.length r1),eInts r.mr (.slice R2 r.mr.length r2),eEds r.ed (.slice R3 r.ed.length r3),eBox tl l ⟨L1,l1,L2,l2,L3,l3⟩,eBox tu u ⟨U1,u1,U2,u2,U3,u3⟩,eBox tq q ⟨Q1,q1,Q2,q2,Q3,q3⟩,eBox tp p ⟨P1,p1,P2,p2,P3,p3⟩,eBox ta a ⟨A1,a1,A2,a2,A3,a3⟩,eBox (ta + 1) b ⟨B1,b1,B2,b2,B3,b3⟩] V) (T5.out.alloc' _ [_,_,_,_] rfl ht) fun W5 S' => ?_
 have S5 : Hid (Sep w.heap.size w [eBox tr r ⟨R1,r1,R2,r2,R3,r3⟩,eBox tl l ⟨L1,l1,L2,l2,L3,l3⟩,eBox tu u ⟨U1,u1,U2,u2,U3,u3⟩,eBox tq q ⟨Q1,q1,Q2,q2,Q3,q3⟩,eBox tp p ⟨P1,p1,P2,p2,P3,p3⟩,eBox ta a ⟨A1,a1,A2,a2,A3,a3⟩,eBox (ta + 1) b ⟨B1,b1,B2,b2,B3,b3⟩] W5) := S'.box
 clear S' T5 ht
 have la0 := BlkAt.cell (S5.out.get 5 rfl).1 0
 have la1 := BlkAt.cell (S5.out.get 5 rfl).1 1
 have la2 := BlkAt.cell (S5.out.get 5 rfl).1 2
 have la3 := BlkAt.cell (S5.out.get 5 rfl).1 3
 have lb0 := BlkAt.cell (S5.out.get 6 rfl).1 0
 have lb1 := BlkAt.cell (S5.out.get 6 rfl).1 1
 have lb2 := BlkAt.cell (S5.out.get 6 rfl).1 2
 have lb3 := BlkAt.cell (S5.out.get 6 rfl).1 3
 simp only [List.getElem?_cons_succ,List.getElem?_cons_zero] at la0 la1 la2 la3 lb0 lb1 lb2 lb3
 go_wp2_with fail
 refine (difference_c a b ⟨A1,a1,A2,a2,A3,a3⟩ ⟨B1,b1,B2,b2,B3,b3⟩ W5 (HTAB.out.below S5.out.below) GA.out.rt GB.out.rt (eBox.caps (S5.out.get 5 rfl)) (eBox.caps (S5.out.get 6 rfl)) (eBox.at (S5.out.get 5 rfl) HLa.out) (eBox.at (S5.out.get 6 rfl) HLb.out)).mono ?_
 rintro e w6 ⟨d,⟨D1,d1,D2,d2,D3,d3⟩,r,rfl,TT,HLd,RR⟩
 obtain ⟨rfl,hm,hal,hsz⟩ := RR.out.got GA.out.rt GB.out.rt (x := 5) (y := 5) na nb (by decide)
 have HMd := Lib.hid hm
 have HAd := Lib.hid hal
 have HSd := Lib.hid hsz
 have T6 : Hid (Sep w.heap.size w [eInts d.al (.slice D1 d.al.length d1),eInts d.mr (.slice D2 d.mr.length d2),eEds d.ed (.slice D3 d.ed.length d3),eBox tr r ⟨R1,r1,R2,r2,R3,r3⟩,eBox tl l ⟨L1,l1,L2,l2,L3,l3⟩,eBox tu u ⟨U1,u1,U2,u2,U3,u3⟩,eBox tq q ⟨Q1,q1,Q2,q2,Q3,q3⟩,eBox tp p ⟨P1,p1,P2,p2,P3,p3⟩,eBox ta a ⟨A1,a1,A2,a2,A3,a3⟩,eBox (ta + 1) b ⟨B1,b1,B2,b2,B3,b3⟩] w6) := S5.out.news TT.out
 clear TT RR hm hal hsz la0 la1 la2 la3 lb0 lb1 lb2 lb3 S5
 dsimp only [Au.val]
 obtain ⟨td,ht⟩ : ∃ g,g = w6.heap.size := ⟨_,rfl⟩
 go_upto_region 11 with fail
 rw [← ht]
 refine wp_world (fun V => Sep w.heap.size w [eBlk td 35 [.slice D1 d.al.length d1,.int .i64 d.n,.slice D2 d.mr.length d2,.slice D3 d.ed.length d3],eInts d.al (.slice D1 d.al.length d1),eInts d.mr (.slice D2 d.mr.length d2),eEds d.ed (.slice D3 d.ed.length d3),eBox tr r ⟨R1,r1,R2,r2,R3,r3⟩,eBox tl l ⟨L1,l1,L2,l2,L3,l3⟩,eBox tu u ⟨U1,u1,U2,u2,U3,u3⟩,eBox tq q ⟨Q1,q1,Q2,q2,Q3,q3⟩,eBox tp p ⟨P1,p1,P2,p2,P3,p3⟩,eBox ta a ⟨A1,a1,A2,a2,A3,a3⟩,eBox (ta + 1) b ⟨B1,b1,B2,b2,B3,b3⟩] V) (T6.out.alloc' _ [_,_,_,_] rfl ht) fun W6 S' => ?_
 have S6 : Hid (Sep w.heap.size w [eBox td d ⟨D1,d1,D2,d2,D3,d3⟩,eBox tr r ⟨R1,r1,R2,r2,R3,r3⟩,eBox tl l ⟨L1,l1,L2,l2,L3,l3⟩,eBox tu u ⟨U1,u1,U2,u2,U3,u3⟩,eBox tq q ⟨Q1,q1,Q2,q2,Q3,q3⟩,eBox tp p ⟨P1,p1,P2,p2,P3,p3⟩,eBox ta a ⟨A1,a1,A2,a2,A3,a3⟩,eBox (ta + 1) b ⟨B1,b1,B2,b2,B3,b3⟩] W6) := S'.box
 clear S' T6 ht
 have la0 := BlkAt.cell (S6.out.get 6 rfl).1 0
 have la1 := BlkAt.cell (S6.out.get 6 rfl).1 1
 have la2 := BlkAt.cell (S6.out.get 6 rfl).1 2
 have la3 := BlkAt.cell (S6.out.get 6 rfl).1 3
 have lb0 := BlkAt.cell (S6.out.get 7 rfl).1 0
 have lb1 := BlkAt.cell (S6.out.get 7 rfl).1 1
 have lb2 := BlkAt.cell (S6.out.get 7 rfl).1 2
 have lb3 := BlkAt.cell (S6.out.get 7 rfl).1 3
 simp only [List.getElem?_cons_succ,List.getElem?_cons_zero] at la0 la1 la2 la3 lb0 lb1 lb2 lb3
 go_wp2_with fail
 refine (included_c a b ⟨A1,a1,A2,a2,A3,a3⟩ ⟨B1,b1,B2,b2,B3,b3⟩ 2 W6 (eBox.at (S6.out.get 6 rfl) HLa.out) (eBox.at (S6.out.get 7 rfl) HLb.out) GA.out.rt GB.out.rt (Nat.le_trans (Nat.mul_le_mul (show a.n.toNat + 2 ≤ 7 by omega) (show b.n.toNat + 2 ≤ 7 by omega)) (by decide)) (.inr rfl) (by simp [incP,inV_none])).mono ?_
 rintro e v1 ⟨AI,cI,li,f,rfl,HI,hb,HF⟩
 have S7 : Hid (Sep w.heap.size w [eBox td d ⟨D1,d1,D2,d2,D3,d3⟩,eBox tr r ⟨R1,r1,R2,r2,R3,r3⟩,eBox tl l ⟨L1,l1,L2,l2,L3,l3⟩,eBox tu u ⟨U1,u1,U2,u2,U3,u3⟩,eBox tq q ⟨Q1,q1,Q2,q2,Q3,q3⟩,eBox tp p ⟨P1,p1,P2,p2,P3,p3⟩,eBox ta a ⟨A1,a1,A2,a2,A3,a3⟩,eBox (ta + 1) b ⟨B1,b1,B2,b2,B3,b3⟩] v1) := S6.out.next hb
 clear hb HI S6 la0 la1 la2 la3 lb0 lb1 lb2 lb3
 have ld0 := BlkAt.cell (S7.out.get 0 rfl).1 0
 have ld1 := BlkAt.cell (S7.out.get 0 rfl).1 1
 have ld2 := BlkAt.cell (S7.out.get 0 rfl).1 2
 have ld3 := BlkAt.cell (S7.out.get 0 rfl).1 3
 simp only [List.getElem?_cons_succ,List.getElem?_cons_zero] at ld0 ld1 ld2 ld3
 go_wp2_with fail
 refine (empty_c d ⟨D1,d1,D2,d2,D3,d3⟩ 2 v1 (eBox.at (S7.out.get 0 rfl) HLd.out) HMd.out.rt (.inr rfl)).mono ?_
 rintro e v2 ⟨bb,rfl,hb,HE⟩
 have S8 : Hid (Sep w.heap.size w [eBox td d ⟨D1,d1,D2,d2,D3,d3⟩,eBox tr r ⟨R1,r1,R2,r2,R3,r3⟩,eBox tl l ⟨L1,l1,L2,l2,L3,l3⟩,eBox tu u ⟨U1,u1,U2,u2,U3,u3⟩,eBox tq q ⟨Q1,q1,Q2,q2,Q3,q3⟩,eBox tp p ⟨P1,p1,P2,p2,P3,p3⟩,eBox ta a ⟨A1,a1,A2,a2,A3,a3⟩,eBox (ta + 1) b ⟨B1,b1,B2,b2,B3,b3⟩] v2) := S7.out.next hb
 clear hb S7 ld0 ld1 ld2 ld3
 have hab : b.al = a.al := GB.out.al.trans GA.out.al.symm
 obtain rfl : f = bb := by
  have h1 := inc_empty GA.out.rt GB.out.rt hab HMd.out HAd.out
  have h2 : f = true ↔ ∀ u,¬ LeadsTo (stp2 a b) (a.st,b.st) a.al (fun q => incP a b 2 q = true) u := by
   rcases HF.out with ⟨h,g⟩ | ⟨h,_,g⟩
   · exact ⟨fun e => absurd (h.symm.trans e) (by decide),fun e => absurd g.is (e _)⟩
   · exact ⟨fun _ => g,fun _ => h⟩
  exact Bool.eq_iff_iff.2 (h2.trans (h1.trans HE.out.symm))
 have HLR : Hid (l = r) := morgan GA.out.rt.al.incr hab HMp.out HAp.out HMq.out HAq.out HMu.out HAu.out HMl.out HAl.out HMr.out HAr.out
 clear hab
 have ll0 := BlkAt.cell (S8.out.get 2 rfl).1 0
 have ll1 := BlkAt.cell (S8.out.get 2 rfl).1 1
 have ll2 := BlkAt.cell (S8.out.get 2 rfl).1 2
 have ll3 := BlkAt.cell (S8.out.get 2 rfl).1 3
 have lr0 := BlkAt.cell (S8.out.get 1 rfl).1 0
 have lr1 := BlkAt.cell (S8.out.get 1 rfl).1 1
 have lr2 := BlkAt.cell (S8.out.get 1 rfl).1 2
 have lr3 := BlkAt.cell (S8.out.get 1 rfl).1 3
 simp only [List.getElem?_cons_succ,List.getElem?_cons_zero] at ll0 ll1 ll2 ll3 lr0 lr1 lr2 lr3
 go_wp2_with fail
 refine (autoEq_c l r ⟨L1,l1,L2,l2,L3,l3⟩ ⟨R1,r1,R2,r2,R3,r3⟩ v2 (eBox.at (S8.out.get 2 rfl) HLl.out) (eBox.at (S8.out.get 1 rfl) HLr.out)).mono ?_
 intro e v3 hs
 obtain ⟨rfl,hb⟩ := hs.yes2 HLR.out
 have BZ : Hid (Below w.heap.size w v3) := (S8.out.next hb).below
 go_wp2_with fail
 go_ret
 exact ⟨rfl,BZ.out⟩
end Go.Proofs.YtkifgffhoenaoaaDoor

namespace Go.Proofs.YtkifgffhoenaoaaDoor
open Go.RowKit
set_option linter.unusedSimpArgs false
set_option linter.unusedVariables false
set_option maxRecDepth 100000

def goV (ed : List Ed) : Int → List Int → Int × Nat
 | s,[] => (s,0)
 | s,e :: r => if nextV ed s e < 0 then (s,0) else ((goV ed (nextV ed s e) r).1,(goV ed (nextV ed s e) r).2 + 1)
theorem goV_run {a : Au} (hr : a.Right) : ∀ (w : List Int) (s : Int),0 ≤ s → ((goV a.ed s w).2 = w.length ↔ 0 ≤ runV a.ed s w) ∧ ((goV a.ed s w).2 = w.length → (goV a.ed s w).1 = runV a.ed s w)
 | [],s,hs => by simp [goV,runV,hs]
 | e :: r,s,hs => by
   rw [runV,if_pos hs]
   unfold goV
   by_cases h : nextV a.ed s e < 0
   · rw [if_pos h,runV_neg _ h]
     simp
     omega
   · rw [if_neg h]
     have := goV_run hr r (nextV a.ed s e) (by omega)
     simp only [List.length_cons,Nat.add_right_cancel_iff]
     exact this
def GivesRun (ed : List Ed) (s : Int) (l : List Int) (w : World) (e : Ending) (w' : World) : Prop := e = .returned (.tuple #[.int .i64 (goV ed s l).1,.int .i64 ((goV ed s l).2 : Int)]) ∧ Below w.heap.size w w'
set_option maxHeartbeats 4000000 in
theorem run3_c (a : Au) (p : AuP) (s : Int) (A : Option Addr) (c : Nat) (l : List Int) (w : World) (hA : Au.At w a p) (hl : IntsAt w A l) (ll : l.length ≤ 140737488355328) :
 Calls Tryd.prog 59 #[a.val p,.int .i64 s,.slice A l.length c] w (GivesRun a.ed s l w) := by
 have HA := Lib.hid hA
 have HI := Lib.hid hl
 obtain ⟨al,n,mr,ed⟩ := a
 obtain ⟨A1,c1,A2,c2,A3,c3⟩ := p
 dsimp only [Au.val]
 clear hA hl
 go_enter Tryd.func59,Tryd.ntmps59
 go_upto_region 1 with fail
 refine wp_world (fun W => Sep w.heap.size w [eBlk w.heap.size 35 [.slice A1 al.length c1,.int .i64 n,.slice A2 mr.length c2,.slice A3 ed.length c3]] W) ?_ fun W S => ?_
 · exact (Sep.here w).alloc' _ [_,_,_,_] rfl rfl
 have S0 := Lib.hid S
 clear S
 go_wp2_with fail
 go_loopw [1,8,9] (fun sv i u wr => ∃ (k : Nat) (t : Int),k ≤ l.length ∧ i = .int .i64 (k : Int) ∧ sv = .int .i64 t ∧ Hid (goV ed s l = ((goV ed t (l.drop k)).1,k + (goV ed t (l.drop k)).2)) ∧ Hid (Sep w.heap.size w [eBlk w.heap.size 35 [.slice A1 al.length c1,.int .i64 n,.slice A2 mr.length c2,.slice A3 ed.length c3]] wr)) (fun _ i _ _ => l.length - (intOf i).toNat)
 case atStart => exact ⟨0,s,by omega,rfl,rfl,by simp [Hid],S0.out⟩
 case round =>
  obtain ⟨k,t,hk,rfl,rfl,HG,S1⟩ := hrel
  by_cases hlt : k < l.length
  · obtain ⟨b,off,x,rfl,hb,hx,e0⟩ := IntsAt.at (HI.out.below IntE.stays S1.out.below) hlt
    have HX : Hid (l.drop k = x :: l.drop (k + 1)) := by
     obtain ⟨h1,h2⟩ := List.getElem?_eq_some_iff.1 hx
     rw [Hid,List.drop_eq_getElem_cons h1,h2]
    clear hx
    have a0 := BlkAt.cell (S1.out.get 0 rfl) 0
    have a1 := BlkAt.cell (S1.out.get 0 rfl) 1
    have a2 := BlkAt.cell (S1.out.get 0 rfl) 2
    have a3 := BlkAt.cell (S1.out.get 0 rfl) 3
    simp only [List.getElem?_cons_succ,List.getElem?_cons_zero] at a0 a1 a2 a3
    go_wp2_with fail
    go_still_tail 6,(by kernel_rfl)
    change wpList _ _ _ _ _ wr.drew
    go_wp2_with fail
    refine (rstep_c ⟨al,n,mr,ed⟩ ⟨A1,c1,A2,c2,A3,c3⟩ t x wr.drew (HA.out.below S1.out.drew.below).ed HA.out.led).mono ?_
    rintro e w2 ⟨rfl,hb⟩
    have S2 := Lib.hid (S1.out.drew.next hb)
    have HG2 := HG.out
    rw [HX.out] at HG2
    have HG3 := Lib.hid HG2
    clear hb HG2 HG HX a0 a1 a2 a3 e0
    dsimp only at HG3 ⊢
    by_cases h0 : nextV ed t x < 0
    · have HG4 : Hid (goV ed s l = (t,k)) := by rw [Hid,HG3.out]; simp [goV,h0]
      go_wp2_with fail
      refine bodyPost_ret (v := .tuple #[.int .i64 t,.int .i64 (k : Int)]) (by simp [results,Tryd.results59,go_sem]) rfl ?_
      exact ⟨by rw [HG4.out],S2.out.below⟩
    · have HG4 : Hid (goV ed s l = ((goV ed (nextV ed t x) (l.drop (k + 1))).1,k + 1 + (goV ed (nextV ed t x) (l.drop (k + 1))).2)) := by
       rw [Hid,HG3.out,goV,if_neg h0]; simp; omega
      go_wp2_with fail
      go_roundw
      case rel => exact ⟨k + 1,_,by omega,by go_num,rfl,HG4.out,S2.out⟩
      case measure => simp [intOf]; omega
  · obtain rfl : k = l.length := by omega
    have HG2 : Hid (goV ed s l = (t,l.length)) := by rw [Hid,HG.out]; simp [goV]
    go_wp2_with fail
    refine bodyPost_ret (v := .tuple #[.int .i64 t,.int .i64 (l.length : Int)]) (by simp [results,Tryd.results59,go_sem]) rfl ?_
    exact ⟨by rw [HG2.out],S1.out.below⟩
theorem accepts_plain {a : Au} (hr : a.Right) (l : List Int) (hn : 0 < a.n) : ((goV a.ed 0 l).2 = l.length ∧ (goV a.ed 0 l).1 ∈ a.mr) ↔ rn a l ∈ a.mr := by
 have hs : a.st = 0 := by unfold Au.st; rw [if_neg (by omega)]
 obtain ⟨h1,h2⟩ := goV_run hr l 0 (Int.le_refl _)
 unfold rn
 rw [hs]
 constructor
 · rintro ⟨h,hm⟩
   rw [← h2 h]
   exact hm
 · intro hm
   have h := h1.2 (hr.mem hm).1
   exact ⟨h,by rw [h2 h]; exact hm⟩
theorem accepts_none {a : Au} (hr : a.Right) (l : List Int) (hn : ¬ 0 < a.n) : ¬ rn a l ∈ a.mr := fun h => by
 have := hr.mem h
 omega
set_option maxHeartbeats 4000000 in
theorem accepts_c (a : Au) (p : AuP) (A : Option Addr) (c : Nat) (l : List Int) (w : World) (hr : a.Right) (hA : Au.At w a p) (hl : IntsAt w A l) (ll : l.length ≤ 140737488355328) :
 Calls Tryd.prog 31 #[a.val p,.slice A l.length c] w (Tells (rn a l ∈ a.mr) w) := by
 have HA := Lib.hid hA
 have HI := Lib.hid hl
 have HR := Lib.hid hr
 obtain ⟨al,n,mr,ed⟩ := a
 obtain ⟨A1,c1,A2,c2,A3,c3⟩ := p
 dsimp only [Au.val]
 clear hA hl hr
 go_enter Tryd.func31,Tryd.ntmps31
 go_upto_region 1 with fail
 refine wp_world (fun W => Sep w.heap.size w [eBlk w.heap.size 35 [.slice A1 al.length c1,.int .i64 n,.slice A2 mr.length c2,.slice A3 ed.length c3]] W) ?_ fun W S => ?_
 · exact (Sep.here w).alloc' _ [_,_,_,_] rfl rfl
 have S0 := Lib.hid S
 clear S
 have a0 := BlkAt.cell (S0.out.get 0 rfl) 0
 have a1 := BlkAt.cell (S0.out.get 0 rfl) 1
 have a2 := BlkAt.cell (S0.out.get 0 rfl) 2
 have a3 := BlkAt.cell (S0.out.get 0 rfl) 3
 simp only [List.getElem?_cons_succ,List.getElem?_cons_zero] at a0 a1 a2 a3
 go_wp2_with fail
 refine (run3_c ⟨al,n,mr,ed⟩ ⟨A1,c1,A2,c2,A3,c3⟩ 0 A c l W (HA.out.below S0.out.below) (HI.out.below IntE.stays S0.out.below) ll).mono ?_
 rintro e w1 ⟨rfl,hb⟩
 have S1 := Lib.hid (S0.out.next hb)
 clear hb S0 a0 a1 a2 a3
 dsimp only
 obtain ⟨t,ht⟩ : ∃ t,t = (goV ed 0 l).1 := ⟨_,rfl⟩
 obtain ⟨k,hk⟩ : ∃ k,k = (goV ed 0 l).2 := ⟨_,rfl⟩
 rw [← ht,← hk]
 have HT := Lib.hid ht
 have HK := Lib.hid hk
 clear ht hk
 have a1 := BlkAt.cell (S1.out.get 0 rfl) 1
 have a2 := BlkAt.cell (S1.out.get 0 rfl) 2
 simp only [List.getElem?_cons_succ,List.getElem?_cons_zero] at a1 a2
 by_cases hn : 0 < n
 · have AP := Lib.hid (accepts_plain HR.out l hn)
   by_cases hkl : k = l.length
   · have hke : ((k : Int) == (l.length : Int)) = true := by simp [hkl]
     go_wp2_with fail
     refine (rhas_c A2 c2 mr t w1 (HA.out.below S1.out.below).mr HA.out.lmk).mono ?_
     intro e w2 hs
     rcases hs.no1 with ⟨rfl,hq,rfl⟩ | ⟨rfl,hq,rfl⟩
     · go_wp2_with fail
       go_ret
       exact Tells.no (fun h => hq.out (HT.out ▸ (AP.out.2 h).2)) S1.out.below
     · go_wp2_with fail
       go_ret
       exact Tells.yes (AP.out.1 ⟨HK.out ▸ hkl,HT.out ▸ hq.out⟩) S1.out.below
   · have hke : ((k : Int) == (l.length : Int)) = false := by rw [beq_eq_false_iff_ne]; omega
     go_wp2_with fail
     go_ret
     exact Tells.no (fun h => hkl (HK.out.trans (AP.out.2 h).1)) S1.out.below
 · go_wp2_with fail
   go_ret
   exact Tells.no (accepts_none HR.out l (by simp only; omega)) S1.out.below
end Go.Proofs.YtkifgffhoenaoaaDoor

