/-
  What the row leans on.
-/
import Derived.Test.YtjjifefanjnghaaBas01
import Derived.Test.YtjjifefanjnghaaJfx07
import Derived.Test.YtjjifefanjnghaaJfx06
import Derived.Test.YtjjifefanjnghaaJfx03
set_option linter.unusedSimpArgs false
set_option linter.unusedVariables false
namespace Go.Proofs.Ytjjifefanjnghaa
open Go.RowKit
set_option maxRecDepth 100000
section
attribute [local go_sem] Oper.semAt_some

theorem marked8_d (a : Au) (p : AuP) (s : Int) (m : Bool) (w : World) (h2 : IntsAt w p.A2 a.mr) (l2 : a.mr.length ≤ 140737488355328) (h : decide (s ∈ a.mr) = m) : Calls Try.prog 43 #[a.val p,.int .i64 s] w (Ret (.bool m) w) := by
 refine (marked8_c a p s w h2 l2).mono ?_;rintro e w' ⟨r,rfl,hr,hb⟩;refine ⟨?_,hb⟩;have : r = m := by
  rw [← h];by_cases g : s ∈ a.mr
  · rw [decide_eq_true g,hr.2 g]
  · rw [decide_eq_false g];cases r
    · rfl
    · exact absurd (hr.1 rfl) g
 rw [this]
theorem next8_d (a : Au) (p : AuP) (s e t : Int) (w : World) (h3 : EdsAt w p.A3 a.ed) (l3 : a.ed.length ≤ 140737488355328) (h : nextV a.ed s e = t) : Calls Try.prog 44 #[a.val p,.int .i64 s,.int .i64 e] w (Ret (.int .i64 t) w) := h ▸ next8_c a p s e w h3 l3
def lookV (s : Bool) (raw : List PrV) (x y : Int) (u : Nat) : Bool := s || (raw.take u).any fun r => r.x == x && r.y == y
theorem lookV_start (s : Bool) (raw : List PrV) (x y : Int) : lookV s raw x y 0 = s := by simp [lookV]
theorem lookV_next {s : Bool} {raw : List PrV} {x y : Int} {u : Nat} {a b : Int} {A : Option Addr} {n c : Nat} (h : raw[u]? = some ⟨a,b,A,n,c⟩) : lookV s raw x y (u + 1) = (lookV s raw x y u || (a == x && b == y)) := by
 have hlt := (List.getElem?_eq_some_iff.1 h).1;have e : raw.take (u + 1) = raw.take u ++ [⟨a,b,A,n,c⟩] := by rw [List.take_add_one,h]; rfl
 unfold lookV
 rw [e,List.any_append,Bool.or_assoc];simp
theorem lookV_false {s : Bool} {raw : List PrV} {x y : Int} (h : lookV s raw x y raw.length = false) : s = false ∧ ∀ r,r ∈ raw → ¬ (r.x = x ∧ r.y = y) := by
 unfold lookV at h
 rw [List.take_length] at h;simp only [Bool.or_eq_false_iff,List.any_eq_false,Bool.and_eq_true,beq_iff_eq] at h;exact h
theorem lookV_true {s : Bool} {raw : List PrV} {x y : Int} (h : lookV s raw x y raw.length = true) : s = true ∨ ∃ r,r ∈ raw ∧ r.x = x ∧ r.y = y := by
 unfold lookV at h
 rw [List.take_length] at h;simpa using h
def GivesL8 (a b : Au) (x y : Int) (w : World) (e : Ending) (w' : World) : Prop := ∃ (A : Option Addr) (c : Nat) (l : List Int) (f : Bool),e = .returned (.tuple #[.slice A l.length c,.bool f]) ∧ Hid (IntsAt w' A l) ∧ Below w.heap.size w w' ∧ Hid (DistW a b x y f l ∧ l.length ≤ 1000000)
set_option maxHeartbeats 8000000 in
theorem least8_c (a b : Au) (p q : AuP) (x y : Int) (w : World) (ha : a.Right) (hb : b.Right) (hA : Au.At w a p) (hB : Au.At w b q) (hx : -1 ≤ x ∧ x < a.n) (hy : -1 ≤ y ∧ y < b.n) (hd : (x,y) ≠ (-1,-1)) (hN : (a.n.toNat + 2) * (b.n.toNat + 2) ≤ 1000000) :
 Calls Try.prog 22 #[a.val p,b.val q,.int .i64 x,.int .i64 y] w (GivesL8 a b x y w) := by
 have P0 : Hid (LInv a b (x,y) 0 0 0 [⟨x,y,[]⟩]) := LInv.start x y hx hy hd;have HRA := Lib.hid ha;have HRB := Lib.hid hb;have HA := Lib.hid hA;have HB := Lib.hid hB;obtain ⟨al,n,mr,ed⟩ := a;obtain ⟨A1,c1,A2,c2,A3,c3⟩ := p;obtain ⟨bl,k,ms,es⟩ := b;obtain ⟨B1,d1,B2,d2,B3,d3⟩ := q;(try dsimp only [Au.val] at *);clear ha hb hA hB hx hy hd;obtain ⟨N,hNe⟩ : ∃ N,(n.toNat + 2) * (k.toNat + 2) = N := ⟨_,rfl⟩;rw [hNe] at hN;have HNE := Lib.hid hNe;have hN1 : 1 ≤ N := by rw [← hNe]; exact Nat.mul_pos (Nat.succ_pos _) (Nat.succ_pos _)
 clear hNe;go_enter Try.func22,Try.ntmps22
 go_upto_region 1 with fail
 refine wp_world (fun W => Sep w.heap.size w [eBlk (w.heap.size + 1) 25 [.slice B1 bl.length d1,.int .i64 k,.slice B2 ms.length d2,.slice B3 es.length d3],eBlk w.heap.size 25 [.slice A1 al.length c1,.int .i64 n,.slice A2 mr.length c2,.slice A3 ed.length c3]] W) ?_ fun W S => ?_
 · exact ((Sep.here w).alloc' _ [_,_,_,_] rfl rfl).alloc' _ [_,_,_,_] rfl (by simp)
 have S0 := Lib.hid S;clear S;go_upto_region 2 with fail
 obtain ⟨b0,hb0⟩ : ∃ b,b = W.heap.size := ⟨_,rfl⟩;rw [← hb0];refine wp_world (fun V => Sep w.heap.size w [eWds [] [⟨x,y,none,0,0⟩] [⟨x,y,[]⟩],eOwn PrV.cells 3 72 [⟨x,y,none,0,0⟩] (.slice (some ⟨b0,0,none⟩) 1 1),eBlk (w.heap.size + 1) 25 [.slice B1 bl.length d1,.int .i64 k,.slice B2 ms.length d2,.slice B3 es.length d3],eBlk w.heap.size 25 [.slice A1 al.length c1,.int .i64 n,.slice A2 mr.length c2,.slice A3 ed.length c3]] V) ?_ fun W2 S => ?_
 · have h1 := ((S0.out.alloc' 72 [.int .i64 x,.int .i64 y,.slice none 0 0] rfl hb0).own 0 rfl PrV.cells 3 [⟨x,y,none,0,0⟩] rfl (fun _ => rfl) (by simp [maxLen])).new1 (Below.refl _ _) (eWds [] [] []) ⟨rfl,by simp,by simp⟩ (by simp [eWds]);exact Sep.wdsPush (wd := []) (A := none) (c := 0) (h1.nilOwn encI 1 3) x y
 have S2 : (SepW w [eWds [] [⟨x,y,none,0,0⟩] [⟨x,y,[]⟩],eOwn PrV.cells 3 72 [⟨x,y,none,0,0⟩] (.slice (some ⟨b0,0,none⟩) 1 1),eBlk (w.heap.size + 1) 25 [.slice B1 bl.length d1,.int .i64 k,.slice B2 ms.length d2,.slice B3 es.length d3],eBlk w.heap.size 25 [.slice A1 al.length c1,.int .i64 n,.slice A2 mr.length c2,.slice A3 ed.length c3]] W2) := S;clear S S0 hb0;go_wp2_with fail
 go_loopw [10,11] (fun v j wr => ∃ (i : Nat) (raw : List PrV) (l : List Pw) (AR : Option Addr) (cR : Nat) (fs : List Nat),j = .int .i64 ↑i ∧ v = .slice AR raw.length cR ∧ i ≤ raw.length ∧ raw.length ≤ N ∧ Hid (raw.length = l.length) ∧ Hid (LInv ⟨al,n,mr,ed⟩ ⟨bl,k,ms,es⟩ (x,y) i 0 i l) ∧ (SepW w [eWds fs raw l,eOwn PrV.cells 3 72 raw (.slice AR raw.length cR),eBlk (w.heap.size + 1) 25 [.slice B1 bl.length d1,.int .i64 k,.slice B2 ms.length d2,.slice B3 es.length d3],eBlk w.heap.size 25 [.slice A1 al.length c1,.int .i64 n,.slice A2 mr.length c2,.slice A3 ed.length c3]] wr)) (fun _ j _ => N - (intOf j).toNat)
 case atStart => exact ⟨0,[⟨x,y,none,0,0⟩],[⟨x,y,[]⟩],_,_,[],rfl,rfl,Nat.zero_le _,hN1,rfl,P0.out,S2.out⟩
 case round =>
  clear S2;obtain ⟨i,raw,l,AR,cR,fs,rfl,rfl,hi,hlN,hrl,PB,S⟩ := hrel;by_cases hlt : i < raw.length
  · obtain ⟨gR,oR,r,rfl,hr⟩ := S.out.prs 1 rfl hlt;obtain ⟨p,hp⟩ : ∃ p,l[i]? = some p := ⟨_,List.getElem?_eq_getElem (by rw [← hrl.out]; exact hlt)⟩;obtain ⟨rx,ry,hwn,hwd⟩ := (S.out.get 0 rfl).2.2 i r p hr hp;have HWD := Lib.hid hwd;have HWN := Lib.hid hwn;clear hwd hwn;have HR := Lib.hid hr;have HP := Lib.hid hp;obtain ⟨rX,rY,rA,rn,rc⟩ := r;dsimp only at rx ry;subst rx ry;obtain ⟨y0,y1,y2⟩ := Sep.prAt S.out 1 rfl hr;clear hr hp;obtain ⟨bp,hbp⟩ : ∃ b,b = wr.heap.size := ⟨_,rfl⟩;go_upto_region 6 with fail
    refine wp_world (fun V => Sep w.heap.size w [eBlk bp 72 [.int .i64 p.x,.int .i64 p.y,.slice rA rn rc],eWds fs raw l,eOwn PrV.cells 3 72 raw (.slice (some ⟨gR,oR,none⟩) raw.length cR),eBlk (w.heap.size + 1) 25 [.slice B1 bl.length d1,.int .i64 k,.slice B2 ms.length d2,.slice B3 es.length d3],eBlk w.heap.size 25 [.slice A1 al.length c1,.int .i64 n,.slice A2 mr.length c2,.slice A3 ed.length c3]] V) ?_ fun wp S' => ?_
    · exact S.out.alloc' 72 [.int .i64 p.x,.int .i64 p.y,.slice rA rn rc] rfl hbp
    have S5 : (SepW w [eBlk bp 72 [.int .i64 p.x,.int .i64 p.y,.slice rA rn rc],eWds fs raw l,eOwn PrV.cells 3 72 raw (.slice (some ⟨gR,oR,none⟩) raw.length cR),eBlk (w.heap.size + 1) 25 [.slice B1 bl.length d1,.int .i64 k,.slice B2 ms.length d2,.slice B3 es.length d3],eBlk w.heap.size 25 [.slice A1 al.length c1,.int .i64 n,.slice A2 mr.length c2,.slice A3 ed.length c3]] wp) := S';rw [← hbp];clear S' S hbp y0 y1 y2;have RG := PB.out.rg p (List.mem_of_getElem? HP.out);have HNN : ¬ (p.x < 0 ∧ p.y < 0) := fun h => PB.out.al p (List.mem_of_getElem? HP.out) (by unfold Pw.pr; rw [Prod.mk.injEq]; omega);obtain ⟨d,hdd⟩ : ∃ d,pdV ⟨al,n,mr,ed⟩ ⟨bl,k,ms,es⟩ p.pr = d := ⟨_,rfl⟩;obtain ⟨m1,hm1⟩ : ∃ m,decide (p.x ∈ mr) = m := ⟨_,rfl⟩;obtain ⟨m2,hm2⟩ : ∃ m,decide (p.y ∈ ms) = m := ⟨_,rfl⟩;have HDE : Hid (d = (decide (p.x < 0) || decide (p.y < 0) || (m1 != m2))) := by
     have e1 : decide (p.x = -1) = decide (p.x < 0) := decide_eq_decide.2 (by omega);have e2 : decide (p.y = -1) = decide (p.y < 0) := decide_eq_decide.2 (by omega);rw [Hid,← hdd,← hm1,← hm2];unfold pdV
     rw [if_neg (PB.out.al p (List.mem_of_getElem? HP.out))];show (decide (p.x = -1) || decide (p.y = -1) || _) = _
     rw [e1,e2]; rfl
    have HM1 := Lib.hid hm1;have HM2 := Lib.hid hm2;have HDD := Lib.hid hdd;clear hdd hm1 hm2;go_cut [53] (fun v wx => v = .bool d ∧ (SepW w [eBlk bp 72 [.int .i64 p.x,.int .i64 p.y,.slice rA rn rc],eWds fs raw l,eOwn PrV.cells 3 72 raw (.slice (some ⟨gR,oR,none⟩) raw.length cR),eBlk (w.heap.size + 1) 25 [.slice B1 bl.length d1,.int .i64 k,.slice B2 ms.length d2,.slice B3 es.length d3],eBlk w.heap.size 25 [.slice A1 al.length c1,.int .i64 n,.slice A2 mr.length c2,.slice A3 ed.length c3]] wx))
    case first =>
     by_cases h1 : p.x < 0
     · have hb1 : decide (p.x < 0) = true := decide_eq_true h1;have hb2 : decide (p.y < 0) = false := decide_eq_false (fun h => HNN ⟨h1,h⟩);have hbd : d = true := by rw [HDE.out,hb1]; rfl
       subst hbd;have S1 := Lib.hid S5.out.drew;refine wp_region_held_drew (S := (fun V => Sep w.heap.size w [eBlk bp 72 [.int .i64 p.x,.int .i64 p.y,.slice rA rn rc],eBlk (w.heap.size + 1) 25 [.slice B1 bl.length d1,.int .i64 k,.slice B2 ms.length d2,.slice B3 es.length d3],eBlk w.heap.size 25 [.slice A1 al.length c1,.int .i64 n,.slice A2 mr.length c2,.slice A3 ed.length c3]] V)) (by kernel_rfl) ?_ (fun hH => ?_)
       · exact S1.out.pick [0,3,4] (by decide)
       generalize hwz : wp.drew = w1 at *;clear hwz;refine tkP 0 rfl (v := ?_) hH ?_;(try simp only [sx]);refine tkH 1 rfl (v := ?_) (by kernel_rfl) ?_ hH ?_;rotate_left
       · intro V hs_;have z0 := ckC hs_ 0 rfl 0 rfl;clear hs_;first | (go_simp; done) | (go_simp; with_reducible rfl)
       (try simp only [sx]);refine tkP 2 rfl (v := ?_) hH ?_;(try simp only [sx]);refine tkP 3 rfl (v := ?_) hH ?_;(try simp only [sx]);refine tkH 4 rfl (v := ?_) (by kernel_rfl) ?_ hH ?_;rotate_left
       · intro V hs_;have z1 := ckC hs_ 0 rfl 1 rfl;clear hs_;first | (go_simp; done) | (go_simp; with_reducible rfl)
       (try simp only [sx]);refine tkP 5 rfl (v := ?_) hH ?_;(try simp only [sx]);refine tkP 6 rfl (v := ?_) hH ?_;(try simp only [sx]);refine tkP 7 rfl (v := ?_) hH ?_;(try simp only [sx]);refine wpAnyH_take (i := 8) (v := undef) rfl (by kernel_rfl) (by kernel_rfl) (by kernel_rfl) (fun _ _ _ h => h) (Or.inr ⟨?_,rfl⟩) hH ?_
       · kernel_rfl
       (try simp only [sx]);refine wpAnyH_take (i := 9) (v := undef) rfl (by kernel_rfl) (by kernel_rfl) (by kernel_rfl) (fun _ _ _ h => h) (Or.inr ⟨?_,rfl⟩) hH ?_
       · kernel_rfl
       (try simp only [sx]);refine wpAnyH_take (i := 10) (v := undef) rfl (by kernel_rfl) (by kernel_rfl) (by kernel_rfl) (fun _ _ _ h => h) (Or.inr ⟨?_,rfl⟩) hH ?_
       · kernel_rfl
       (try simp only [sx]);refine wpAnyH_take (i := 11) (v := undef) rfl (by kernel_rfl) (by kernel_rfl) (by kernel_rfl) (fun _ _ _ h => h) (Or.inr ⟨?_,rfl⟩) hH ?_
       · kernel_rfl
       (try simp only [sx]);refine wpAnyH_take (i := 12) (v := undef) rfl (by kernel_rfl) (by kernel_rfl) (by kernel_rfl) (fun _ _ _ h => h) (Or.inr ⟨?_,rfl⟩) hH ?_
       · kernel_rfl
       (try simp only [sx]);refine wpAnyH_take (i := 13) (v := undef) rfl (by kernel_rfl) (by kernel_rfl) (by kernel_rfl) (fun _ _ _ h => h) (Or.inr ⟨?_,rfl⟩) hH ?_
       · kernel_rfl
       (try simp only [sx]);refine wpAnyH_take (i := 14) (v := undef) rfl (by kernel_rfl) (by kernel_rfl) (by kernel_rfl) (fun _ _ _ h => h) (Or.inr ⟨?_,rfl⟩) hH ?_
       · kernel_rfl
       (try simp only [sx]);refine wpAnyH_take (i := 15) (v := undef) rfl (by kernel_rfl) (by kernel_rfl) (by kernel_rfl) (fun _ _ _ h => h) (Or.inr ⟨?_,rfl⟩) hH ?_
       · kernel_rfl
       (try simp only [sx]);refine wpAnyH_take (i := 16) (v := undef) rfl (by kernel_rfl) (by kernel_rfl) (by kernel_rfl) (fun _ _ _ h => h) (Or.inr ⟨?_,rfl⟩) hH ?_
       · kernel_rfl
       (try simp only [sx]);refine wpAnyH_take (i := 17) (v := undef) rfl (by kernel_rfl) (by kernel_rfl) (by kernel_rfl) (fun _ _ _ h => h) (Or.inr ⟨?_,rfl⟩) hH ?_
       · kernel_rfl
       (try simp only [sx]);refine wpAnyH_take (i := 18) (v := undef) rfl (by kernel_rfl) (by kernel_rfl) (by kernel_rfl) (fun _ _ _ h => h) (Or.inr ⟨?_,rfl⟩) hH ?_
       · kernel_rfl
       (try simp only [sx]);refine wpAnyH_take (i := 19) (v := undef) rfl (by kernel_rfl) (by kernel_rfl) (by kernel_rfl) (fun _ _ _ h => h) (Or.inr ⟨?_,rfl⟩) hH ?_
       · kernel_rfl
       (try simp only [sx]);refine wpAnyH_take (i := 20) (v := undef) rfl (by kernel_rfl) (by kernel_rfl) (by kernel_rfl) (fun _ _ _ h => h) (Or.inr ⟨?_,rfl⟩) hH ?_
       · kernel_rfl
       (try simp only [sx]);refine wpAnyH_take (i := 21) (v := undef) rfl (by kernel_rfl) (by kernel_rfl) (by kernel_rfl) (fun _ _ _ h => h) (Or.inr ⟨?_,rfl⟩) hH ?_
       · kernel_rfl
       (try simp only [sx]);refine tkP 22 rfl (v := ?_) hH ?_;(try simp only [sx]);refine wpAnyH_done (by kernel_rfl) ?_ _;go_wp2_with fail
       go_meet
       exact ⟨by first | rfl | (simp [*]),S1.out⟩
     · by_cases h2 : p.y < 0
       · have hb1 : decide (p.x < 0) = false := decide_eq_false h1;have hb2 : decide (p.y < 0) = true := decide_eq_true h2;have hbd : d = true := by rw [HDE.out,hb1,hb2]; rfl
         subst hbd;have S2 := Lib.hid S5.out.drew;refine wp_region_held_drew (S := (fun V => Sep w.heap.size w [eBlk bp 72 [.int .i64 p.x,.int .i64 p.y,.slice rA rn rc],eBlk (w.heap.size + 1) 25 [.slice B1 bl.length d1,.int .i64 k,.slice B2 ms.length d2,.slice B3 es.length d3],eBlk w.heap.size 25 [.slice A1 al.length c1,.int .i64 n,.slice A2 mr.length c2,.slice A3 ed.length c3]] V)) (by kernel_rfl) ?_ (fun hH => ?_)
         · exact S2.out.pick [0,3,4] (by decide)
         generalize hwz : wp.drew = w2 at *;clear hwz;refine tkP 0 rfl (v := ?_) hH ?_;(try simp only [sx]);refine tkH 1 rfl (v := ?_) (by kernel_rfl) ?_ hH ?_;rotate_left
         · intro V hs_;have z0 := ckC hs_ 0 rfl 0 rfl;clear hs_;first | (go_simp; done) | (go_simp; with_reducible rfl)
         (try simp only [sx]);refine tkP 2 rfl (v := ?_) hH ?_;(try simp only [sx]);refine tkP 3 rfl (v := ?_) hH ?_;(try simp only [sx]);refine tkH 4 rfl (v := ?_) (by kernel_rfl) ?_ hH ?_;rotate_left
         · intro V hs_;have z1 := ckC hs_ 0 rfl 1 rfl;clear hs_;first | (go_simp; done) | (go_simp; with_reducible rfl)
         (try simp only [sx]);refine tkP 5 rfl (v := ?_) hH ?_;(try simp only [sx]);refine tkP 6 rfl (v := ?_) hH ?_;(try simp only [sx]);refine tkP 7 rfl (v := ?_) hH ?_;(try simp only [sx]);refine wpAnyH_take (i := 8) (v := undef) rfl (by kernel_rfl) (by kernel_rfl) (by kernel_rfl) (fun _ _ _ h => h) (Or.inr ⟨?_,rfl⟩) hH ?_
         · kernel_rfl
         (try simp only [sx]);refine wpAnyH_take (i := 9) (v := undef) rfl (by kernel_rfl) (by kernel_rfl) (by kernel_rfl) (fun _ _ _ h => h) (Or.inr ⟨?_,rfl⟩) hH ?_
         · kernel_rfl
         (try simp only [sx]);refine wpAnyH_take (i := 10) (v := undef) rfl (by kernel_rfl) (by kernel_rfl) (by kernel_rfl) (fun _ _ _ h => h) (Or.inr ⟨?_,rfl⟩) hH ?_
         · kernel_rfl
         (try simp only [sx]);refine wpAnyH_take (i := 11) (v := undef) rfl (by kernel_rfl) (by kernel_rfl) (by kernel_rfl) (fun _ _ _ h => h) (Or.inr ⟨?_,rfl⟩) hH ?_
         · kernel_rfl
         (try simp only [sx]);refine wpAnyH_take (i := 12) (v := undef) rfl (by kernel_rfl) (by kernel_rfl) (by kernel_rfl) (fun _ _ _ h => h) (Or.inr ⟨?_,rfl⟩) hH ?_
         · kernel_rfl
         (try simp only [sx]);refine wpAnyH_take (i := 13) (v := undef) rfl (by kernel_rfl) (by kernel_rfl) (by kernel_rfl) (fun _ _ _ h => h) (Or.inr ⟨?_,rfl⟩) hH ?_
         · kernel_rfl
         (try simp only [sx]);refine wpAnyH_take (i := 14) (v := undef) rfl (by kernel_rfl) (by kernel_rfl) (by kernel_rfl) (fun _ _ _ h => h) (Or.inr ⟨?_,rfl⟩) hH ?_
         · kernel_rfl
         (try simp only [sx]);refine wpAnyH_take (i := 15) (v := undef) rfl (by kernel_rfl) (by kernel_rfl) (by kernel_rfl) (fun _ _ _ h => h) (Or.inr ⟨?_,rfl⟩) hH ?_
         · kernel_rfl
         (try simp only [sx]);refine wpAnyH_take (i := 16) (v := undef) rfl (by kernel_rfl) (by kernel_rfl) (by kernel_rfl) (fun _ _ _ h => h) (Or.inr ⟨?_,rfl⟩) hH ?_
         · kernel_rfl
         (try simp only [sx]);refine wpAnyH_take (i := 17) (v := undef) rfl (by kernel_rfl) (by kernel_rfl) (by kernel_rfl) (fun _ _ _ h => h) (Or.inr ⟨?_,rfl⟩) hH ?_
         · kernel_rfl
         (try simp only [sx]);refine wpAnyH_take (i := 18) (v := undef) rfl (by kernel_rfl) (by kernel_rfl) (by kernel_rfl) (fun _ _ _ h => h) (Or.inr ⟨?_,rfl⟩) hH ?_
         · kernel_rfl
         (try simp only [sx]);refine wpAnyH_take (i := 19) (v := undef) rfl (by kernel_rfl) (by kernel_rfl) (by kernel_rfl) (fun _ _ _ h => h) (Or.inr ⟨?_,rfl⟩) hH ?_
         · kernel_rfl
         (try simp only [sx]);refine wpAnyH_take (i := 20) (v := undef) rfl (by kernel_rfl) (by kernel_rfl) (by kernel_rfl) (fun _ _ _ h => h) (Or.inr ⟨?_,rfl⟩) hH ?_
         · kernel_rfl
         (try simp only [sx]);refine wpAnyH_take (i := 21) (v := undef) rfl (by kernel_rfl) (by kernel_rfl) (by kernel_rfl) (fun _ _ _ h => h) (Or.inr ⟨?_,rfl⟩) hH ?_
         · kernel_rfl
         (try simp only [sx]);refine tkP 22 rfl (v := ?_) hH ?_;(try simp only [sx]);refine wpAnyH_done (by kernel_rfl) ?_ _;go_wp2_with fail
         go_meet
         exact ⟨by first | rfl | (simp [*]),S2.out⟩
       · have hb1 : decide (p.x < 0) = false := decide_eq_false h1;have hb2 : decide (p.y < 0) = false := decide_eq_false h2;have hb3 : decide (p.x ≥ 0) = true := decide_eq_true (by omega);have hbd : d = (m1 != m2) := by rw [HDE.out,hb1,hb2]; rfl
         subst hbd;have S3 := Lib.hid S5.out.drew;refine wp_region_held_drew (S := (fun V => Sep w.heap.size w [eBlk bp 72 [.int .i64 p.x,.int .i64 p.y,.slice rA rn rc],eBlk (w.heap.size + 1) 25 [.slice B1 bl.length d1,.int .i64 k,.slice B2 ms.length d2,.slice B3 es.length d3],eBlk w.heap.size 25 [.slice A1 al.length c1,.int .i64 n,.slice A2 mr.length c2,.slice A3 ed.length c3]] V)) (by kernel_rfl) ?_ (fun hH => ?_)
         · exact S3.out.pick [0,3,4] (by decide)
         generalize hwz : wp.drew = w3 at *;clear hwz;refine tkP 0 rfl (v := ?_) hH ?_;(try simp only [sx]);refine tkH 1 rfl (v := ?_) (by kernel_rfl) ?_ hH ?_;rotate_left
         · intro V hs_;have z0 := ckC hs_ 0 rfl 0 rfl;clear hs_;first | (go_simp; done) | (go_simp; with_reducible rfl)
         (try simp only [sx]);refine tkP 2 rfl (v := ?_) hH ?_;(try simp only [sx]);refine tkP 3 rfl (v := ?_) hH ?_;(try simp only [sx]);refine tkH 4 rfl (v := ?_) (by kernel_rfl) ?_ hH ?_;rotate_left
         · intro V hs_;have z1 := ckC hs_ 0 rfl 1 rfl;clear hs_;first | (go_simp; done) | (go_simp; with_reducible rfl)
         (try simp only [sx]);refine tkP 5 rfl (v := ?_) hH ?_;(try simp only [sx]);refine tkP 6 rfl (v := ?_) hH ?_;(try simp only [sx]);refine tkP 7 rfl (v := ?_) hH ?_;(try simp only [sx]);refine tkP 8 rfl (v := ?_) hH ?_;(try simp only [sx]);refine tkH 9 rfl (v := ?_) (by kernel_rfl) ?_ hH ?_;rotate_left
         · intro V hs_;have z0 := ckC hs_ 0 rfl 0 rfl;clear hs_;first | (go_simp; done) | (go_simp; with_reducible rfl)
         (try simp only [sx]);refine tkP 10 rfl (v := ?_) hH ?_;(try simp only [sx]);refine tkP 11 rfl (v := ?_) hH ?_;(try simp only [sx]);refine tkH 12 rfl (v := ?_) (by kernel_rfl) ?_ hH ?_;rotate_left
         · intro V hs_;have a0 := ckC hs_ 2 rfl 0 rfl;have a1 := ckC hs_ 2 rfl 1 rfl;have a2 := ckC hs_ 2 rfl 2 rfl;have a3 := ckC hs_ 2 rfl 3 rfl;clear hs_;first | (go_simp; done) | (go_simp; with_reducible rfl)
         (try simp only [sx]);refine tkP 13 rfl (v := ?_) hH ?_;(try simp only [sx]);refine tkH 14 rfl (v := ?_) (by kernel_rfl) ?_ hH ?_;rotate_left
         · intro V hs_;have z0 := ckC hs_ 0 rfl 0 rfl;clear hs_;first | (go_simp; done) | (go_simp; with_reducible rfl)
         (try simp only [sx]);refine tkH 16 rfl (v := ?_) (by kernel_rfl) ?_ hH ?_;rotate_left
         · intro V hs_;have b0 := ckC hs_ 1 rfl 0 rfl;have b1 := ckC hs_ 1 rfl 1 rfl;have b2 := ckC hs_ 1 rfl 2 rfl;have b3 := ckC hs_ 1 rfl 3 rfl;clear hs_;first | (go_simp; done) | (go_simp; with_reducible rfl)
         (try simp only [sx]);refine tkP 17 rfl (v := ?_) hH ?_;(try simp only [sx]);refine tkH 18 rfl (v := ?_) (by kernel_rfl) ?_ hH ?_;rotate_left
         · intro V hs_;have z1 := ckC hs_ 0 rfl 1 rfl;clear hs_;first | (go_simp; done) | (go_simp; with_reducible rfl)
         (try simp only [sx]);refine rdH 15 rfl fun K hK => ?_;go_simp;refine (marked8_d ⟨al,n,mr,ed⟩ ⟨A1,c1,A2,c2,A3,c3⟩ p.x m1 w3 (HA.out.below S3.out.below).mr HA.out.lmk HM1.out).mono ?_;rintro e w4 ⟨rfl,hb⟩;have S4 := Lib.hid (S3.out.next hb);clear hb;refine hK.out _ _ (S4.out.pick [0,3,4] (by decide)) fun hH => ?_;clear hK K;(try simp only [sx]);refine rdH 19 rfl fun K hK => ?_;go_simp;refine (marked8_d ⟨bl,k,ms,es⟩ ⟨B1,d1,B2,d2,B3,d3⟩ p.y m2 w4 (HB.out.below S4.out.below).mr HB.out.lmk HM2.out).mono ?_;rintro e w5 ⟨rfl,hb⟩;have S5 := Lib.hid (S4.out.next hb);clear hb;refine hK.out _ _ (S5.out.pick [0,3,4] (by decide)) fun hH => ?_;clear hK K;(try simp only [sx]);refine tkP 20 rfl (v := ?_) hH ?_;(try simp only [sx]);refine tkP 21 rfl (v := ?_) hH ?_;(try simp only [sx]);refine tkP 22 rfl (v := ?_) hH ?_;(try simp only [sx]);refine wpAnyH_done (by kernel_rfl) ?_ _;go_wp2_with fail
         go_meet
         exact ⟨by first | rfl | (simp [*]),S5.out⟩
    case rest =>
     obtain ⟨rfl,S6⟩ := hcut;clear S5;have bp0 := ckC S6.out 0 rfl 0 rfl;have bp2 := ckC S6.out 0 rfl 2 rfl;cases d
     · have hpx : 0 ≤ p.x := by
        cases hh : decide (p.x < 0)
        · have := of_decide_eq_false hh; omega
        · have h := HDE.out; rw [hh] at h; cases h
       have hpx' : decide (p.x < 0) = false := decide_eq_false (by omega);have PB1 : Hid (LInv ⟨al,n,mr,ed⟩ ⟨bl,k,ms,es⟩ (x,y) i 0 (i + 1) l) := PB.out.test HP.out HDD.out;clear PB;go_wp2_with fail
       clear bp0 bp2;go_loopw [10,13] (fun v j wr => ∃ (t : Nat) (raw : List PrV) (l : List Pw) (AR : Option Addr) (cR : Nat) (fs : List Nat),j = .int .i64 ↑t ∧ v = .slice AR raw.length cR ∧ i < raw.length ∧ raw.length ≤ N ∧ Hid (raw.length = l.length) ∧ t ≤ 32 ∧ Hid (l[i]? = some p) ∧ Hid (raw[i]? = some ⟨p.x,p.y,rA,rn,rc⟩) ∧ Hid (LInv ⟨al,n,mr,ed⟩ ⟨bl,k,ms,es⟩ (x,y) i t (i + 1) l) ∧ (SepW w [eBlk bp 72 [.int .i64 p.x,.int .i64 p.y,.slice rA rn rc],eWds fs raw l,eOwn PrV.cells 3 72 raw (.slice AR raw.length cR),eBlk (w.heap.size + 1) 25 [.slice B1 bl.length d1,.int .i64 k,.slice B2 ms.length d2,.slice B3 es.length d3],eBlk w.heap.size 25 [.slice A1 al.length c1,.int .i64 n,.slice A2 mr.length c2,.slice A3 ed.length c3]] wr)) (fun _ j _ => 32 - (intOf j).toNat)
       case atStart => exact ⟨0,raw,l,_,cR,fs,rfl,rfl,hlt,hlN,hrl.out,Nat.zero_le _,HP.out,HR.out,PB1.out,S6.out⟩
       case round =>
        clear PB1 S6 hrl hlN hlt hi HP HR;obtain ⟨t,raw,l,AR,cR,fs,rfl,rfl,hlt,hlN,hrl,ht,HP,HR,PB,S⟩ := hrel;by_cases htl : t < 32
        · have ht32 : decide ((t : Int) < 32) = true := decide_eq_true (by omega);have hW := ((S.out.get 1 rfl).2.2 i _ p HR.out HP.out).2.2;have hrn : rn = p.w.length := hW.1;subst hrn;have hpw := PB.out.word HP.out;have hil : i < l.length := by rw [← hrl.out]; exact hlt
          obtain ⟨tx,htx⟩ : ∃ u,nextV ed p.x (t : Int) = u := ⟨_,rfl⟩;obtain ⟨ty,hty⟩ : ∃ u,nextV es p.y (t : Int) = u := ⟨_,rfl⟩;have HST : Hid (stp2 ⟨al,n,mr,ed⟩ ⟨bl,k,ms,es⟩ p.pr (t : Int) = (tx,ty)) := by rw [← htx,← hty]; show (toV (stepOf ed) p.x t,toV (stepOf es) p.y t) = _; rw [← HRA.out.next,← HRB.out.next]
          have HTX := Lib.hid htx;have HTY := Lib.hid hty;clear htx hty;have hwd := hW.2;clear hW;have S5 := S;clear S;go_upto_region 12 with fail
          go_cut [14] (fun v wx => ∃ (bq : Nat) (AW : Option Addr) (cW : Nat),v = .pointer (some ⟨bq,0,none⟩) ∧ (SepW w [eBlk bq 72 [.int .i64 tx,.int .i64 ty,.slice AW (p.w.length + 1) cW],eInts (p.w ++ [(t : Int)]) (.slice AW (p.w.length + 1) cW),eBlk bp 72 [.int .i64 p.x,.int .i64 p.y,.slice rA p.w.length rc],eWds fs raw l,eOwn PrV.cells 3 72 raw (.slice AR raw.length cR),eBlk (w.heap.size + 1) 25 [.slice B1 bl.length d1,.int .i64 k,.slice B2 ms.length d2,.slice B3 es.length d3],eBlk w.heap.size 25 [.slice A1 al.length c1,.int .i64 n,.slice A2 mr.length c2,.slice A3 ed.length c3]] wx))
          case first =>
           have HWD := Lib.hid hwd;clear hwd;have S6 := Lib.hid S5.out.drew;refine wp_region_held_drew (S := (fun V => Sep w.heap.size w [eBlk bp 72 [.int .i64 p.x,.int .i64 p.y,.slice rA p.w.length rc],eBlk (w.heap.size + 1) 25 [.slice B1 bl.length d1,.int .i64 k,.slice B2 ms.length d2,.slice B3 es.length d3],eBlk w.heap.size 25 [.slice A1 al.length c1,.int .i64 n,.slice A2 mr.length c2,.slice A3 ed.length c3]] V)) (by kernel_rfl) ?_ (fun hH => ?_)
           · exact S6.out.pick [0,3,4] (by decide)
           generalize hwz : wr.drew = w6 at *;clear hwz;rw [show Array.replicate _ false = #[false,false,false,false,false,false,false,false,false,false,false,false,false,false,false,false,false,false,false,false] from rfl];refine tkH 0 rfl (v := ?_) (by kernel_rfl) ?_ hH ?_;rotate_left
           · intro V hs_;have a0 := ckC hs_ 2 rfl 0 rfl;have a1 := ckC hs_ 2 rfl 1 rfl;have a2 := ckC hs_ 2 rfl 2 rfl;have a3 := ckC hs_ 2 rfl 3 rfl;clear hs_;first | (go_simp; done) | (go_simp; with_reducible rfl)
           (try simp only [sx]);refine tkP 1 rfl (v := ?_) hH ?_;(try simp only [sx]);refine tkH 2 rfl (v := ?_) (by kernel_rfl) ?_ hH ?_;rotate_left
           · intro V hs_;have z0 := ckC hs_ 0 rfl 0 rfl;clear hs_;first | (go_simp; done) | (go_simp; with_reducible rfl)
           (try simp only [sx]);refine tkP 3 rfl (v := ?_) hH ?_;(try simp only [sx]);refine tkH 5 rfl (v := ?_) (by kernel_rfl) ?_ hH ?_;rotate_left
           · intro V hs_;have b0 := ckC hs_ 1 rfl 0 rfl;have b1 := ckC hs_ 1 rfl 1 rfl;have b2 := ckC hs_ 1 rfl 2 rfl;have b3 := ckC hs_ 1 rfl 3 rfl;clear hs_;first | (go_simp; done) | (go_simp; with_reducible rfl)
           (try simp only [sx]);refine tkP 6 rfl (v := ?_) hH ?_;(try simp only [sx]);refine tkH 7 rfl (v := ?_) (by kernel_rfl) ?_ hH ?_;rotate_left
           · intro V hs_;have z1 := ckC hs_ 0 rfl 1 rfl;clear hs_;first | (go_simp; done) | (go_simp; with_reducible rfl)
           (try simp only [sx]);refine tkP 8 rfl (v := ?_) hH ?_;(try simp only [sx]);refine tkP 11 rfl (v := ?_) hH ?_;(try simp only [sx]);refine tkH 12 rfl (v := ?_) (by kernel_rfl) ?_ hH ?_;rotate_left
           · intro V hs_;have z2 := ckC hs_ 0 rfl 2 rfl;clear hs_;first | (go_simp; done) | (go_simp; with_reducible rfl)
           (try simp only [sx]);refine tkP 14 rfl (v := ?_) hH ?_;(try simp only [sx]);refine act_name ?_;intro A0 hA0;obtain ⟨F,hF⟩ : ∃ F : Value → Value → Value → Value → Value → Value → Value → Value → Act,Hid (∀ x67 x72 x73 x76 x78 x79 x80 x14,F x67 x72 x73 x76 x78 x79 x80 x14 = ((((((((A0.put (some 67) x67).put (some 72) x72).put (some 73) x73).put (some 76) x76).put (some 78) x78).put (some 79) x79).put (some 80) x80).put (some 14) x14)) := ⟨fun x67 x72 x73 x76 x78 x79 x80 x14 => ((((((((A0.put (some 67) x67).put (some 72) x72).put (some 73) x73).put (some 76) x76).put (some 78) x78).put (some 79) x79).put (some 80) x80).put (some 14) x14),fun _ _ _ _ _ _ _ _ => rfl⟩;subst hA0;unfold Hid at hF
           simp only [List.getElem_toArray,List.getElem_cons_zero,List.getElem_cons_succ,Act.put,List.setIfInBounds_toArray,List.set_cons_zero,List.set_cons_succ] at hF;have HF := Lib.hid hF;clear hF
           obtain ⟨INV,hI⟩ : ∃ I : Array Bool → Act → World → Prop,Hid (∀ l_ a_ W_,I l_ a_ W_ ↔ ∃ (fb4 fb9 fb10 fb13 fb15 fb16 fb17 fb18 fb19 : Bool) (x67 x72 x73 x76 x78 x79 x80 x14 : Value) (E_bq E_ne E_nb : Ent),l_ = #[true,true,true,true,fb4,true,true,true,true,fb9,fb10,true,true,fb13,true,fb15,fb16,fb17,fb18,fb19] ∧ a_ = F x67 x72 x73 x76 x78 x79 x80 x14 ∧ (SepW w [E_bq,E_ne,E_nb,eBlk bp 72 [.int .i64 p.x,.int .i64 p.y,.slice rA p.w.length rc],eWds fs raw l,eOwn PrV.cells 3 72 raw (.slice AR raw.length cR),eBlk (w.heap.size + 1) 25 [.slice B1 bl.length d1,.int .i64 k,.slice B2 ms.length d2,.slice B3 es.length d3],eBlk w.heap.size 25 [.slice A1 al.length c1,.int .i64 n,.slice A2 mr.length c2,.slice A3 ed.length c3]] W_) ∧ True ∧ Hid (fb9 = true → fb4 = true) ∧ Hid (fb13 = true → fb9 = true) ∧ Hid (fb13 = true → fb10 = true) ∧ Hid (fb16 = true → fb13 = true) ∧ Hid (fb16 = true → fb15 = true) ∧ Hid (fb17 = true → fb16 = true) ∧ Hid (fb19 = true → fb17 = true) ∧ Hid (fb19 = true → fb18 = true) ∧ Hid (fb4 = true → x67 = .int .i64 tx) ∧ Hid (fb9 = true → x72 = .int .i64 ty) ∧ Hid (fb17 = true → x80 = .agg #[.int .i64 tx,.int .i64 ty,x79]) ∧ Hid (fb18 = false → E_bq = eNo) ∧ Hid (fb18 = true → fb19 = false → ∃ g,x14 = .pointer (some ⟨g,0,none⟩) ∧ E_bq = eBlk g 72 [.int .i64 0,.int .i64 0,.slice none 0 0]) ∧ Hid (fb19 = true → ∃ g A c,x14 = .pointer (some ⟨g,0,none⟩) ∧ x79 = .slice A (p.w.length + 1) c ∧ E_bq = eBlk g 72 [.int .i64 tx,.int .i64 ty,.slice A (p.w.length + 1) c]) ∧ Hid (fb15 = false → E_ne = eNo) ∧ Hid (fb15 = true → ∃ g,x78 = .slice (some ⟨g,0,none⟩) 1 1 ∧ E_ne = eBlk g 3 [.int .i64 ↑t]) ∧ Hid (fb10 = false → E_nb = eNo) ∧ Hid (fb10 = true → fb13 = false → ∃ g,x73 = .slice (some ⟨g,0,none⟩) 0 0 ∧ E_nb = eInts [] (.slice (some ⟨g,0,none⟩) 0 0)) ∧ Hid (fb13 = true → fb16 = false → ∃ A c,x76 = .slice A p.w.length c ∧ E_nb = eInts p.w (.slice A p.w.length c)) ∧ Hid (fb16 = true → ∃ A c,x79 = .slice A (p.w.length + 1) c ∧ E_nb = eInts (p.w ++ [(t : Int)]) (.slice A (p.w.length + 1) c))) := ⟨_,fun _ _ _ => Iff.rfl⟩
           refine wpAnyH_inv (INV := INV) (D := [[],[],[1],[],[0,2,3],[],[],[6],[],[4,5,7,8],[],[],[11],[9,10,12],[],[14],[13,15],[4,9,16],[],[0,1,2,3,4,5,6,7,8,9,10,11,12,13,14,15,16,17,18]]) [4,9,10,13,15,16,17,18,19] (by kernel_rfl) (fun l_ a_ W_ h => ?_) (fun l_ a_ W_ h => ?_) (fun l_ a_ W_ h hall => ?_) ?_ _ _ _ _ (by decide) ?_
           · obtain ⟨fb4,fb9,fb10,fb13,fb15,fb16,fb17,fb18,fb19,x67,x72,x73,x76,x78,x79,x80,x14,E_bq,E_ne,E_nb,rfl,rfl,S_,_,mf4_9,mf9_13,mf10_13,mf13_16,mf15_16,mf16_17,mf17_19,mf18_19,cf4,cf9,cf17,d_bq,d_bq0,d_bq1,d_ne,d_ne0,d_nb,d_nb0,d_nb1,d_nb2⟩ := (hI.out _ _ _).1 h;exact S_.out.pick [3,6,7] (by decide)
           · obtain ⟨fb4,fb9,fb10,fb13,fb15,fb16,fb17,fb18,fb19,x67,x72,x73,x76,x78,x79,x80,x14,E_bq,E_ne,E_nb,rfl,rfl,S_,_,mf4_9,mf9_13,mf10_13,mf13_16,mf15_16,mf16_17,mf17_19,mf18_19,cf4,cf9,cf17,d_bq,d_bq0,d_bq1,d_ne,d_ne0,d_nb,d_nb0,d_nb1,d_nb2⟩ := (hI.out _ _ _).1 h;rfl
           · obtain ⟨fb4,fb9,fb10,fb13,fb15,fb16,fb17,fb18,fb19,x67,x72,x73,x76,x78,x79,x80,x14,E_bq,E_ne,E_nb,rfl,rfl,S_,_,mf4_9,mf9_13,mf10_13,mf13_16,mf15_16,mf16_17,mf17_19,mf18_19,cf4,cf9,cf17,d_bq,d_bq0,d_bq1,d_ne,d_ne0,d_nb,d_nb0,d_nb1,d_nb2⟩ := (hI.out _ _ _).1 h;obtain rfl : fb4 = true := hall 4 (by decide);obtain rfl : fb9 = true := hall 9 (by decide);obtain rfl : fb10 = true := hall 10 (by decide);obtain rfl : fb13 = true := hall 13 (by decide);obtain rfl : fb15 = true := hall 15 (by decide);obtain rfl : fb16 = true := hall 16 (by decide);obtain rfl : fb17 = true := hall 17 (by decide);obtain rfl : fb18 = true := hall 18 (by decide);obtain rfl : fb19 = true := hall 19 (by decide);clear hall h hI INV;rw [HF.out];clear HF F;obtain rfl := cf4.out rfl;obtain rfl := cf9.out rfl;obtain rfl := cf17.out rfl;have v_bq := d_bq1.out rfl;have v_ne := d_ne0.out rfl;have v_nb := d_nb2.out rfl;clear mf4_9 mf9_13 mf10_13 mf13_16 mf15_16 mf16_17 mf17_19 mf18_19 cf4 cf9 cf17 d_bq d_bq0 d_bq1 d_ne d_ne0 d_nb d_nb0 d_nb1 d_nb2;obtain ⟨g,A,c,rfl,rfl,rfl⟩ := v_bq;obtain ⟨A',c',h79,rfl⟩ := v_nb;simp only [Value.slice.injEq,true_and] at h79;obtain ⟨rfl,rfl⟩ := h79;have S9 := S_;go_wp2_with fail
             go_meet
             exact ⟨g,A,c,rfl,S9.out.pick [0,2,3,4,5,6,7] (by decide)⟩
           · clear hH S6;refine StepsI.cons rfl (fun l_ a_ W_ h hf hd K hK => ?_) (StepsI.cons rfl (fun l_ a_ W_ h hf hd K hK => ?_) (StepsI.cons rfl (fun l_ a_ W_ h hf hd K hK => ?_) (StepsI.cons rfl (fun l_ a_ W_ h hf hd K hK => ?_) (StepsI.cons rfl (fun l_ a_ W_ h hf hd K hK => ?_) (StepsI.cons rfl (fun l_ a_ W_ h hf hd K hK => ?_) (StepsI.cons rfl (fun l_ a_ W_ h hf hd K hK => ?_) (StepsI.cons rfl (fun l_ a_ W_ h hf hd K hK => ?_) (StepsI.cons rfl (fun l_ a_ W_ h hf hd K hK => ?_) (StepsI.nil)))))))))
             · obtain ⟨fb4,fb9,fb10,fb13,fb15,fb16,fb17,fb18,fb19,x67,x72,x73,x76,x78,x79,x80,x14,E_bq,E_ne,E_nb,rfl,rfl,S_,_,mf4_9,mf9_13,mf10_13,mf13_16,mf15_16,mf16_17,mf17_19,mf18_19,cf4,cf9,cf17,d_bq,d_bq0,d_bq1,d_ne,d_ne0,d_nb,d_nb0,d_nb1,d_nb2⟩ := (hI.out _ _ _).1 h;obtain rfl : fb4 = false := hf;clear h;obtain rfl : fb9 = false := by cases fb9 with | false => rfl | true => exact nomatch (mf4_9.out rfl)
               obtain rfl : fb13 = false := by cases fb13 with | false => rfl | true => exact nomatch (mf9_13.out rfl)
               obtain rfl : fb16 = false := by cases fb16 with | false => rfl | true => exact nomatch (mf13_16.out rfl)
               obtain rfl : fb17 = false := by cases fb17 with | false => rfl | true => exact nomatch (mf16_17.out rfl)
               obtain rfl : fb19 = false := by cases fb19 with | false => rfl | true => exact nomatch (mf17_19.out rfl)
               clear hd;rw [HF.out];go_simp;refine (next8_d ⟨al,n,mr,ed⟩ ⟨A1,c1,A2,c2,A3,c3⟩ p.x (t : Int) tx W_ (HA.out.below S_.out.below).ed HA.out.led HTX.out).mono ?_;rintro e_ W2 ⟨rfl,hb⟩;have S2 := Lib.hid (S_.out.next hb);clear hb;(try simp only [sx]);refine hK.out _ _ ((hI.out _ _ _).2 ⟨true,false,fb10,false,fb15,false,false,fb18,false,_,_,_,_,_,_,_,_,_,_,_,rfl,(HF.out _ _ _ _ _ _ _ _).symm,S2,trivial,(fun _ => rfl),(fun h => nomatch h),(fun h => nomatch h),(fun h => nomatch h),(fun h => nomatch h),(fun h => nomatch h),(fun h => nomatch h),(fun h => nomatch h),(fun _ => rfl),(fun h => nomatch h),(fun h => nomatch h),d_bq,d_bq0,(fun h => nomatch h),d_ne,d_ne0,d_nb,d_nb0,(fun h => nomatch h),(fun h => nomatch h)⟩)
             · obtain ⟨fb4,fb9,fb10,fb13,fb15,fb16,fb17,fb18,fb19,x67,x72,x73,x76,x78,x79,x80,x14,E_bq,E_ne,E_nb,rfl,rfl,S_,_,mf4_9,mf9_13,mf10_13,mf13_16,mf15_16,mf16_17,mf17_19,mf18_19,cf4,cf9,cf17,d_bq,d_bq0,d_bq1,d_ne,d_ne0,d_nb,d_nb0,d_nb1,d_nb2⟩ := (hI.out _ _ _).1 h;obtain rfl : fb9 = false := hf;clear h;obtain rfl : fb4 = true := hd 4 (by decide);obtain rfl : fb13 = false := by cases fb13 with | false => rfl | true => exact nomatch (mf9_13.out rfl)
               obtain rfl : fb16 = false := by cases fb16 with | false => rfl | true => exact nomatch (mf13_16.out rfl)
               obtain rfl : fb17 = false := by cases fb17 with | false => rfl | true => exact nomatch (mf16_17.out rfl)
               obtain rfl : fb19 = false := by cases fb19 with | false => rfl | true => exact nomatch (mf17_19.out rfl)
               clear hd;rw [HF.out];obtain rfl := cf4.out rfl;go_simp;refine (next8_d ⟨bl,k,ms,es⟩ ⟨B1,d1,B2,d2,B3,d3⟩ p.y (t : Int) ty W_ (HB.out.below S_.out.below).ed HB.out.led HTY.out).mono ?_;rintro e_ W2 ⟨rfl,hb⟩;have S2 := Lib.hid (S_.out.next hb);clear hb;(try simp only [sx]);refine hK.out _ _ ((hI.out _ _ _).2 ⟨true,true,fb10,false,fb15,false,false,fb18,false,_,_,_,_,_,_,_,_,_,_,_,rfl,(HF.out _ _ _ _ _ _ _ _).symm,S2,trivial,(fun _ => rfl),(fun _ => rfl),(fun h => nomatch h),(fun h => nomatch h),(fun h => nomatch h),(fun h => nomatch h),(fun h => nomatch h),(fun h => nomatch h),cf4,(fun _ => rfl),(fun h => nomatch h),d_bq,d_bq0,(fun h => nomatch h),d_ne,d_ne0,d_nb,d_nb0,(fun h => nomatch h),(fun h => nomatch h)⟩)
             · obtain ⟨fb4,fb9,fb10,fb13,fb15,fb16,fb17,fb18,fb19,x67,x72,x73,x76,x78,x79,x80,x14,E_bq,E_ne,E_nb,rfl,rfl,S_,_,mf4_9,mf9_13,mf10_13,mf13_16,mf15_16,mf16_17,mf17_19,mf18_19,cf4,cf9,cf17,d_bq,d_bq0,d_bq1,d_ne,d_ne0,d_nb,d_nb0,d_nb1,d_nb2⟩ := (hI.out _ _ _).1 h;obtain rfl : fb10 = false := hf;clear h;obtain rfl : fb13 = false := by cases fb13 with | false => rfl | true => exact nomatch (mf10_13.out rfl)
               obtain rfl : fb16 = false := by cases fb16 with | false => rfl | true => exact nomatch (mf13_16.out rfl)
               obtain rfl : fb17 = false := by cases fb17 with | false => rfl | true => exact nomatch (mf16_17.out rfl)
               obtain rfl : fb19 = false := by cases fb19 with | false => rfl | true => exact nomatch (mf17_19.out rfl)
               clear hd;rw [HF.out];have v_nb := d_nb.out rfl;obtain rfl := v_nb;go_simp;obtain ⟨g2,hg2⟩ : ∃ g,g = W_.heap.size := ⟨_,rfl⟩;obtain ⟨W2,hW2⟩ : ∃ v,v = W_.alloc (.cells #[] 3) := ⟨_,rfl⟩;rw [← hW2,← hg2];have S2 := Lib.hid (S_.out.fillAlloc 2 rfl 3 [] (o := .cells #[] 3) rfl hg2);rw [← hW2] at S2;have S3 := Lib.hid (S2.out.own 2 rfl encI 1 [] rfl (fun _ => rfl) (by simp [maxLen]));clear S2;clear hW2 hg2;(try simp only [sx]);refine hK.out _ _ ((hI.out _ _ _).2 ⟨fb4,fb9,true,false,fb15,false,false,fb18,false,_,_,_,_,_,_,_,_,_,_,_,rfl,(HF.out _ _ _ _ _ _ _ _).symm,S3,trivial,mf4_9,(fun h => nomatch h),(fun _ => rfl),(fun h => nomatch h),(fun h => nomatch h),(fun h => nomatch h),(fun h => nomatch h),(fun h => nomatch h),cf4,cf9,(fun h => nomatch h),d_bq,d_bq0,(fun h => nomatch h),d_ne,d_ne0,(fun h => nomatch h),(fun _ _ => ⟨_,rfl,rfl⟩),(fun h => nomatch h),(fun h => nomatch h)⟩)
             · obtain ⟨fb4,fb9,fb10,fb13,fb15,fb16,fb17,fb18,fb19,x67,x72,x73,x76,x78,x79,x80,x14,E_bq,E_ne,E_nb,rfl,rfl,S_,_,mf4_9,mf9_13,mf10_13,mf13_16,mf15_16,mf16_17,mf17_19,mf18_19,cf4,cf9,cf17,d_bq,d_bq0,d_bq1,d_ne,d_ne0,d_nb,d_nb0,d_nb1,d_nb2⟩ := (hI.out _ _ _).1 h;obtain rfl : fb13 = false := hf;clear h;obtain rfl : fb9 = true := hd 9 (by decide);obtain rfl : fb10 = true := hd 10 (by decide);obtain rfl : fb4 = true := mf4_9.out rfl;obtain rfl : fb16 = false := by cases fb16 with | false => rfl | true => exact nomatch (mf13_16.out rfl)
               obtain rfl : fb17 = false := by cases fb17 with | false => rfl | true => exact nomatch (mf16_17.out rfl)
               obtain rfl : fb19 = false := by cases fb19 with | false => rfl | true => exact nomatch (mf17_19.out rfl)
               clear hd;rw [HF.out];obtain rfl := cf4.out rfl;obtain rfl := cf9.out rfl;have v_nb := d_nb0.out rfl rfl;obtain ⟨g,rfl,rfl⟩ := v_nb;rcases HWD.out with ⟨rfl,hw0,rfl⟩ | ⟨gW,rfl,_,_⟩
               · have HW0 := Lib.hid hw0;have hw1 : p.w.length = 0 := by rw [hw0]; rfl
                 clear hw0;rw [hw1] at HF;go_simp;(try simp only [sx]);refine hK.out _ _ ((hI.out _ _ _).2 ⟨true,true,true,true,fb15,false,false,fb18,false,_,_,_,_,_,_,_,_,_,_,_,rfl,(HF.out _ _ _ _ _ _ _ _).symm,S_,trivial,(fun _ => rfl),(fun _ => rfl),(fun _ => rfl),(fun _ => rfl),(fun h => nomatch h),(fun h => nomatch h),(fun h => nomatch h),(fun h => nomatch h),cf4,cf9,(fun h => nomatch h),d_bq,d_bq0,(fun h => nomatch h),d_ne,d_ne0,(fun h => nomatch h),(fun _ h => nomatch h),(fun _ _ => (by rw [HW0.out]; exact ⟨_,_,rfl,rfl⟩)),(fun h => nomatch h)⟩)
               · skip;refine step_pushNS rfl (.tmp 73) (.tmp 75) 22 rfl S_.out 2 rfl Try.underlying22 _ 8 intInfo rfl (by decide) rfl p.w gW _ rfl (fun _ => rfl) (S_.out.wdCells 4 rfl HR.out HP.out) encI_one (by simp; omega) (by decide) ?_;intro AW13 cW13 W2 S2' _;have S2 := Lib.hid S2';clear S2';simp only [List.nil_append,List.length_nil,Nat.zero_add] at S2;simp only [List.length_nil,Nat.zero_add];(try simp only [sx]);refine hK.out _ _ ((hI.out _ _ _).2 ⟨true,true,true,true,fb15,false,false,fb18,false,_,_,_,_,_,_,_,_,_,_,_,rfl,(HF.out _ _ _ _ _ _ _ _).symm,S2,trivial,(fun _ => rfl),(fun _ => rfl),(fun _ => rfl),(fun _ => rfl),(fun h => nomatch h),(fun h => nomatch h),(fun h => nomatch h),(fun h => nomatch h),cf4,cf9,(fun h => nomatch h),d_bq,d_bq0,(fun h => nomatch h),d_ne,d_ne0,(fun h => nomatch h),(fun _ h => nomatch h),(fun _ _ => ⟨_,_,rfl,rfl⟩),(fun h => nomatch h)⟩)
             · obtain ⟨fb4,fb9,fb10,fb13,fb15,fb16,fb17,fb18,fb19,x67,x72,x73,x76,x78,x79,x80,x14,E_bq,E_ne,E_nb,rfl,rfl,S_,_,mf4_9,mf9_13,mf10_13,mf13_16,mf15_16,mf16_17,mf17_19,mf18_19,cf4,cf9,cf17,d_bq,d_bq0,d_bq1,d_ne,d_ne0,d_nb,d_nb0,d_nb1,d_nb2⟩ := (hI.out _ _ _).1 h;obtain rfl : fb15 = false := hf;clear h;obtain rfl : fb16 = false := by cases fb16 with | false => rfl | true => exact nomatch (mf15_16.out rfl)
               obtain rfl : fb17 = false := by cases fb17 with | false => rfl | true => exact nomatch (mf16_17.out rfl)
               obtain rfl : fb19 = false := by cases fb19 with | false => rfl | true => exact nomatch (mf17_19.out rfl)
               clear hd;rw [HF.out];have v_ne := d_ne.out rfl;obtain rfl := v_ne;go_simp;obtain ⟨g2,hg2⟩ : ∃ g,g = W_.heap.size := ⟨_,rfl⟩;obtain ⟨W2,hW2⟩ : ∃ v,v = W_.alloc (.cells #[.int .i64 ↑t] 3) := ⟨_,rfl⟩;rw [← hW2,← hg2];have S2 := Lib.hid (S_.out.fillAlloc 1 rfl 3 [.int .i64 ↑t] (o := .cells #[.int .i64 ↑t] 3) rfl hg2);rw [← hW2] at S2;clear hW2 hg2;(try simp only [sx]);refine hK.out _ _ ((hI.out _ _ _).2 ⟨fb4,fb9,fb10,fb13,true,false,false,fb18,false,_,_,_,_,_,_,_,_,_,_,_,rfl,(HF.out _ _ _ _ _ _ _ _).symm,S2,trivial,mf4_9,mf9_13,mf10_13,(fun h => nomatch h),(fun _ => rfl),(fun h => nomatch h),(fun h => nomatch h),(fun h => nomatch h),cf4,cf9,(fun h => nomatch h),d_bq,d_bq0,(fun h => nomatch h),(fun h => nomatch h),(fun _ => ⟨_,rfl,rfl⟩),d_nb,d_nb0,d_nb1,(fun h => nomatch h)⟩)
             · obtain ⟨fb4,fb9,fb10,fb13,fb15,fb16,fb17,fb18,fb19,x67,x72,x73,x76,x78,x79,x80,x14,E_bq,E_ne,E_nb,rfl,rfl,S_,_,mf4_9,mf9_13,mf10_13,mf13_16,mf15_16,mf16_17,mf17_19,mf18_19,cf4,cf9,cf17,d_bq,d_bq0,d_bq1,d_ne,d_ne0,d_nb,d_nb0,d_nb1,d_nb2⟩ := (hI.out _ _ _).1 h;obtain rfl : fb16 = false := hf;clear h;obtain rfl : fb13 = true := hd 13 (by decide);obtain rfl : fb15 = true := hd 15 (by decide);obtain rfl : fb9 = true := mf9_13.out rfl;obtain rfl : fb10 = true := mf10_13.out rfl;obtain rfl : fb4 = true := mf4_9.out rfl;obtain rfl : fb17 = false := by cases fb17 with | false => rfl | true => exact nomatch (mf16_17.out rfl)
               obtain rfl : fb19 = false := by cases fb19 with | false => rfl | true => exact nomatch (mf17_19.out rfl)
               clear hd;rw [HF.out];obtain rfl := cf4.out rfl;obtain rfl := cf9.out rfl;have v_ne := d_ne0.out rfl;have v_nb := d_nb1.out rfl rfl;obtain ⟨A13,c13,rfl,rfl⟩ := v_nb;obtain ⟨g,rfl,rfl⟩ := v_ne;refine step_pushS rfl (.tmp 76) (.tmp 78) 22 rfl S_.out 2 rfl Try.underlying22 _ 8 intInfo rfl (by decide) rfl (t : Int) g rfl rfl (fun j u hj => (BlkAt.cell (S_.out.get 1 rfl) j).trans hj) (encI_one _) (by omega) (by decide) ?_;intro AW16 cW16 W2 S2' _;have S2 := Lib.hid S2';clear S2';(try simp only [sx]);refine hK.out _ _ ((hI.out _ _ _).2 ⟨true,true,true,true,true,true,false,fb18,false,_,_,_,_,_,_,_,_,_,_,_,rfl,(HF.out _ _ _ _ _ _ _ _).symm,S2,trivial,(fun _ => rfl),(fun _ => rfl),(fun _ => rfl),(fun _ => rfl),(fun _ => rfl),(fun _ => rfl),(fun h => nomatch h),(fun h => nomatch h),cf4,cf9,(fun h => nomatch h),d_bq,d_bq0,(fun h => nomatch h),(fun h => nomatch h),d_ne0,(fun h => nomatch h),(fun _ h => nomatch h),(fun _ h => nomatch h),(fun _ => ⟨_,_,rfl,rfl⟩)⟩)
             · obtain ⟨fb4,fb9,fb10,fb13,fb15,fb16,fb17,fb18,fb19,x67,x72,x73,x76,x78,x79,x80,x14,E_bq,E_ne,E_nb,rfl,rfl,S_,_,mf4_9,mf9_13,mf10_13,mf13_16,mf15_16,mf16_17,mf17_19,mf18_19,cf4,cf9,cf17,d_bq,d_bq0,d_bq1,d_ne,d_ne0,d_nb,d_nb0,d_nb1,d_nb2⟩ := (hI.out _ _ _).1 h;obtain rfl : fb17 = false := hf;clear h;obtain rfl : fb4 = true := hd 4 (by decide);obtain rfl : fb9 = true := hd 9 (by decide);obtain rfl : fb16 = true := hd 16 (by decide);obtain rfl : fb13 = true := mf13_16.out rfl;obtain rfl : fb15 = true := mf15_16.out rfl;obtain rfl : fb10 = true := mf10_13.out rfl;obtain rfl : fb19 = false := by cases fb19 with | false => rfl | true => exact nomatch (mf17_19.out rfl)
               clear hd;rw [HF.out];obtain rfl := cf4.out rfl;obtain rfl := cf9.out rfl;have v_ne := d_ne0.out rfl;have v_nb := d_nb2.out rfl;obtain ⟨AW16,cW16,rfl,_⟩ := v_nb;go_simp;(try simp only [sx]);refine hK.out _ _ ((hI.out _ _ _).2 ⟨true,true,true,true,true,true,true,fb18,false,_,_,_,_,_,_,_,_,_,_,_,rfl,(HF.out _ _ _ _ _ _ _ _).symm,S_,trivial,(fun _ => rfl),(fun _ => rfl),(fun _ => rfl),(fun _ => rfl),(fun _ => rfl),(fun _ => rfl),(fun _ => rfl),(fun h => nomatch h),cf4,cf9,(fun _ => rfl),d_bq,d_bq0,(fun h => nomatch h),(fun h => nomatch h),d_ne0,(fun h => nomatch h),(fun _ h => nomatch h),(fun _ h => nomatch h),d_nb2⟩)
             · obtain ⟨fb4,fb9,fb10,fb13,fb15,fb16,fb17,fb18,fb19,x67,x72,x73,x76,x78,x79,x80,x14,E_bq,E_ne,E_nb,rfl,rfl,S_,_,mf4_9,mf9_13,mf10_13,mf13_16,mf15_16,mf16_17,mf17_19,mf18_19,cf4,cf9,cf17,d_bq,d_bq0,d_bq1,d_ne,d_ne0,d_nb,d_nb0,d_nb1,d_nb2⟩ := (hI.out _ _ _).1 h;obtain rfl : fb18 = false := hf;clear h;obtain rfl : fb19 = false := by cases fb19 with | false => rfl | true => exact nomatch (mf18_19.out rfl)
               clear hd;rw [HF.out];have v_bq := d_bq.out rfl;obtain rfl := v_bq;go_simp;obtain ⟨g2,hg2⟩ : ∃ g,g = W_.heap.size := ⟨_,rfl⟩;obtain ⟨W2,hW2⟩ : ∃ v,v = W_.alloc (.cells #[.int .i64 0,.int .i64 0,.slice none 0 0] 72) := ⟨_,rfl⟩;rw [← hW2,← hg2];have S2 := Lib.hid (S_.out.fillAlloc 0 rfl 72 [.int .i64 0,.int .i64 0,.slice none 0 0] (o := .cells #[.int .i64 0,.int .i64 0,.slice none 0 0] 72) rfl hg2);rw [← hW2] at S2;clear hW2 hg2;(try simp only [sx]);refine hK.out _ _ ((hI.out _ _ _).2 ⟨fb4,fb9,fb10,fb13,fb15,fb16,fb17,true,false,_,_,_,_,_,_,_,_,_,_,_,rfl,(HF.out _ _ _ _ _ _ _ _).symm,S2,trivial,mf4_9,mf9_13,mf10_13,mf13_16,mf15_16,mf16_17,(fun h => nomatch h),(fun _ => rfl),cf4,cf9,cf17,(fun h => nomatch h),(fun _ _ => ⟨_,rfl,rfl⟩),(fun h => nomatch h),d_ne,d_ne0,d_nb,d_nb0,d_nb1,d_nb2⟩)
             · obtain ⟨fb4,fb9,fb10,fb13,fb15,fb16,fb17,fb18,fb19,x67,x72,x73,x76,x78,x79,x80,x14,E_bq,E_ne,E_nb,rfl,rfl,S_,_,mf4_9,mf9_13,mf10_13,mf13_16,mf15_16,mf16_17,mf17_19,mf18_19,cf4,cf9,cf17,d_bq,d_bq0,d_bq1,d_ne,d_ne0,d_nb,d_nb0,d_nb1,d_nb2⟩ := (hI.out _ _ _).1 h;obtain rfl : fb19 = false := hf;clear h;obtain rfl : fb4 = true := hd 4 (by decide);obtain rfl : fb9 = true := hd 9 (by decide);obtain rfl : fb10 = true := hd 10 (by decide);obtain rfl : fb13 = true := hd 13 (by decide);obtain rfl : fb15 = true := hd 15 (by decide);obtain rfl : fb16 = true := hd 16 (by decide);obtain rfl : fb17 = true := hd 17 (by decide);obtain rfl : fb18 = true := hd 18 (by decide);clear hd;rw [HF.out];obtain rfl := cf4.out rfl;obtain rfl := cf9.out rfl;obtain rfl := cf17.out rfl;have v_bq := d_bq0.out rfl rfl;have v_ne := d_ne0.out rfl;have v_nb := d_nb2.out rfl;obtain ⟨g,rfl,rfl⟩ := v_bq;obtain ⟨AW16,cW16,rfl,_⟩ := v_nb;have sc0 := ckC S_.out 0 rfl 0 rfl;have sf0 := BlkAt.free (S_.out.get 0 rfl) 0;have sc1 := ckC S_.out 0 rfl 1 rfl;have sf1 := BlkAt.free (S_.out.get 0 rfl) 1;have sc2 := ckC S_.out 0 rfl 2 rfl;have sf2 := BlkAt.free (S_.out.get 0 rfl) 2;go_simp;obtain ⟨W2,hW2⟩ : ∃ v,v = (((W_.setCell ⟨g,0,none⟩ (.int .i64 tx)).setCell ⟨g,1,none⟩ (.int .i64 ty)).setCell ⟨g,2,none⟩ (.slice AW16 (p.w.length + 1) cW16)) := ⟨_,rfl⟩;rw [← hW2];have S2 := Lib.hid (((S_.out.set 0 rfl 0 (.int .i64 tx)).set 0 rfl 1 (.int .i64 ty)).set 0 rfl 2 (.slice AW16 (p.w.length + 1) cW16))
               rw [← hW2] at S2;clear hW2 sc0 sf0 sc1 sf1 sc2 sf2;(try simp only [sx]);refine hK.out _ _ ((hI.out _ _ _).2 ⟨true,true,true,true,true,true,true,true,true,_,_,_,_,_,_,_,_,_,_,_,rfl,(HF.out _ _ _ _ _ _ _ _).symm,S2,trivial,(fun _ => rfl),(fun _ => rfl),(fun _ => rfl),(fun _ => rfl),(fun _ => rfl),(fun _ => rfl),(fun _ => rfl),(fun _ => rfl),cf4,cf9,cf17,(fun h => nomatch h),(fun _ h => nomatch h),(fun _ => ⟨_,_,_,rfl,rfl,rfl⟩),(fun h => nomatch h),d_ne0,(fun h => nomatch h),(fun _ h => nomatch h),(fun _ h => nomatch h),d_nb2⟩)
           · refine (hI.out _ _ _).2 ⟨false,false,false,false,false,false,false,false,false,_,_,_,_,_,_,_,_,eNo,eNo,eNo,rfl,(HF.out _ _ _ _ _ _ _ _).symm,(S6.out.no.no.no : Sep w.heap.size w [eNo,eNo,eNo,eBlk bp 72 [.int .i64 p.x,.int .i64 p.y,.slice rA p.w.length rc],eWds fs raw l,eOwn PrV.cells 3 72 raw (.slice AR raw.length cR),eBlk (w.heap.size + 1) 25 [.slice B1 bl.length d1,.int .i64 k,.slice B2 ms.length d2,.slice B3 es.length d3],eBlk w.heap.size 25 [.slice A1 al.length c1,.int .i64 n,.slice A2 mr.length c2,.slice A3 ed.length c3]] w6),trivial,(fun h => nomatch h),(fun h => nomatch h),(fun h => nomatch h),(fun h => nomatch h),(fun h => nomatch h),(fun h => nomatch h),(fun h => nomatch h),(fun h => nomatch h),(fun h => nomatch h),(fun h => nomatch h),(fun h => nomatch h),(fun _ => rfl),(fun h => nomatch h),(fun h => nomatch h),(fun _ => rfl),(fun h => nomatch h),(fun _ => rfl),(fun h => nomatch h),(fun h => nomatch h),(fun h => nomatch h)⟩
          case rest =>
           clear S5;obtain ⟨bq,AW,cW,rfl,S6⟩ := hcut;have q0 := ckC S6.out 0 rfl 0 rfl;have q1 := ckC S6.out 0 rfl 1 rfl;obtain ⟨s0,hs0⟩ : ∃ b,(decide (tx < 0) && decide (ty < 0)) = b := ⟨_,rfl⟩;have HS0 := Lib.hid hs0;clear hs0;go_upto_region 13 with fail
           go_cut [15] (fun v wx => v = .bool s0 ∧ (SepW w [eBlk bq 72 [.int .i64 tx,.int .i64 ty,.slice AW (p.w.length + 1) cW],eInts (p.w ++ [(t : Int)]) (.slice AW (p.w.length + 1) cW),eBlk bp 72 [.int .i64 p.x,.int .i64 p.y,.slice rA p.w.length rc],eWds fs raw l,eOwn PrV.cells 3 72 raw (.slice AR raw.length cR),eBlk (w.heap.size + 1) 25 [.slice B1 bl.length d1,.int .i64 k,.slice B2 ms.length d2,.slice B3 es.length d3],eBlk w.heap.size 25 [.slice A1 al.length c1,.int .i64 n,.slice A2 mr.length c2,.slice A3 ed.length c3]] wx))
           case first =>
            by_cases h1 : tx < 0
            · have h1' : decide (tx < 0) = true := decide_eq_true h1;obtain rfl : s0 = decide (ty < 0) := by rw [← HS0.out,h1']; rfl
              go_wp2_with fail
              go_meet
              exact ⟨rfl,S6.out⟩
            · have h1' : decide (tx < 0) = false := decide_eq_false h1;obtain rfl : s0 = false := by rw [← HS0.out,h1']; rfl
              go_wp2_with fail
              go_meet
              exact ⟨rfl,S6.out⟩
           case rest =>
            clear S6 q0 q1;obtain ⟨rfl,S7⟩ := hcut;have SL := Lib.hid (lookV_start s0 raw tx ty);go_wp2_with fail
            go_loopw [15,16] (fun v j wr => ∃ u : Nat,j = .int .i64 ↑u ∧ u ≤ raw.length ∧ v = .bool (lookV s0 raw tx ty u) ∧ (SepW w [eBlk bq 72 [.int .i64 tx,.int .i64 ty,.slice AW (p.w.length + 1) cW],eInts (p.w ++ [(t : Int)]) (.slice AW (p.w.length + 1) cW),eBlk bp 72 [.int .i64 p.x,.int .i64 p.y,.slice rA p.w.length rc],eWds fs raw l,eOwn PrV.cells 3 72 raw (.slice AR raw.length cR),eBlk (w.heap.size + 1) 25 [.slice B1 bl.length d1,.int .i64 k,.slice B2 ms.length d2,.slice B3 es.length d3],eBlk w.heap.size 25 [.slice A1 al.length c1,.int .i64 n,.slice A2 mr.length c2,.slice A3 ed.length c3]] wr)) (fun _ j _ => raw.length - (intOf j).toNat)
            case atStart => exact ⟨0,rfl,Nat.zero_le _,by rw [SL.out],S7.out⟩
            case round =>
             clear S7;obtain ⟨u,rfl,hu,rfl,S⟩ := hrel;by_cases hul : u < raw.length
             · obtain ⟨gR,oR,r,rfl,hr⟩ := S.out.prs 4 rfl hul;obtain ⟨rX2,rY2,rA2,rn2,rc2⟩ := r;obtain ⟨y0,y1,y2⟩ := Sep.prAt S.out 4 rfl hr;have q0 := ckC S.out 0 rfl 0 rfl;have q1 := ckC S.out 0 rfl 1 rfl;have HN := Lib.hid (lookV_next (s := s0) (x := tx) (y := ty) hr);obtain ⟨s1,hs1⟩ : ∃ b,lookV s0 raw tx ty u = b := ⟨_,rfl⟩;rw [hs1] at HN;simp only [hs1];clear hr y2 SL;obtain ⟨s2,hs2⟩ : ∃ b,lookV s0 raw tx ty (u + 1) = b := ⟨_,rfl⟩;rw [hs2] at HN;clear hs1;go_upto_region 17 with fail
               cases s1
               · by_cases h1 : rX2 = tx
                 · subst h1;obtain ⟨e,he⟩ : ∃ b,(rY2 == ty) = b := ⟨_,rfl⟩;obtain rfl : s2 = e := by rw [HN.out,← he]; simp
                   have h1' : (rX2 == rX2) = true := by simp
                   go_quiet (fail)
                   go_wp2_with fail
                   go_roundw
                   case rel => exact ⟨u + 1,by go_num,hul,by rw [hs2],S.out.draws _⟩
                   case measure => simp [intOf]; omega
                 · have h1' : (rX2 == tx) = false := by simpa using h1
                   obtain rfl : s2 = false := by rw [HN.out,h1']; rfl
                   go_quiet (fail)
                   go_wp2_with fail
                   go_roundw
                   case rel => exact ⟨u + 1,by go_num,hul,by rw [hs2],S.out.draws _⟩
                   case measure => simp [intOf]; omega
               · obtain rfl : s2 = true := by rw [HN.out]; rfl
                 go_quiet (fail)
                 go_wp2_with fail
                 go_roundw
                 case rel => exact ⟨u + 1,by go_num,hul,by rw [hs2],S.out.draws _⟩
                 case measure => simp [intOf]; omega
             · obtain rfl : u = raw.length := by omega
               have CX := Lib.hid (HRA.out.to_cases p.x t);have CY := Lib.hid (HRB.out.to_cases p.y t);have EST : stp2 ⟨al,n,mr,ed⟩ ⟨bl,k,ms,es⟩ p.pr (t : Int) = (tx,ty) := HST.out;have HSX : toV (stepOf ed) p.x t = tx := (Prod.mk.inj EST).1;have HSY : toV (stepOf es) p.y t = ty := (Prod.mk.inj EST).2;dsimp only at CX CY;rw [HSX] at CX;rw [HSY] at CY;clear HSX HSY EST;obtain ⟨s1,hs1⟩ : ∃ b,lookV s0 raw tx ty raw.length = b := ⟨_,rfl⟩;simp only [hs1];have HS1 := Lib.hid hs1;clear hs1;cases s1
               · have PB2 : Hid (LInv ⟨al,n,mr,ed⟩ ⟨bl,k,ms,es⟩ (x,y) i (t + 1) (i + 1) (l ++ [⟨tx,ty,p.w ++ [(t : Int)]⟩])) := by
                  obtain ⟨h3,h4⟩ := lookV_false HS1.out;have h := PB.out.push HRA.out HRB.out hil HP.out htl (by
                   rw [HST.out];intro h;obtain ⟨e1,e2⟩ := Prod.mk.inj h;rw [← HS0.out,e1,e2] at h3;exact absurd h3 (by decide)) (by
                   rw [HST.out];intro h;obtain ⟨p2,hp2,he2⟩ := List.mem_map.1 h;obtain ⟨j,hj,rfl⟩ := List.mem_iff_getElem.1 hp2;have hj2 : j < raw.length := by rw [hrl.out]; exact hj
                   obtain ⟨k1,k2,_⟩ := (S.out.get 3 rfl).2.2 j _ _ (List.getElem?_eq_getElem hj2) (List.getElem?_eq_getElem hj);obtain ⟨e1,e2⟩ := Prod.mk.inj he2;exact h4 _ (List.getElem_mem hj2) ⟨k1.trans e1,k2.trans e2⟩)
                  rw [HST.out] at h;exact h
                 clear PB CX CY;have hpl : p.w.length ≤ 1000000 := by omega
                 have q0 := ckC S.out 0 rfl 0 rfl;have q1 := ckC S.out 0 rfl 1 rfl;have q2 := ckC S.out 0 rfl 2 rfl;go_wp2_with (at_builtin; refine wpList_pushS rfl _ _ 73 rfl (S.out.alloc 72 [.int .i64 tx,.int .i64 ty,.slice AW (p.w.length + 1) cW]) 5 rfl Try.underlying73 _ 40 prInfo rfl (by decide) rfl ⟨tx,ty,AW,p.w.length + 1,cW⟩ _ rfl rfl (fun j u hj => (BlkAt.cell ((S.out.alloc 72 [.int .i64 tx,.int .i64 ty,.slice AW (p.w.length + 1) cW]).get 0 rfl) j).trans hj) (prOne _) (by omega) (by decide) ?_)
                 intro A' c' w9 S' _;have h1 : Sep w.heap.size w [eInts (p.w ++ [(t : Int)]) (.slice AW (p.w ++ [(t : Int)]).length cW),eWds fs raw l,eOwn PrV.cells 3 72 (raw ++ [⟨tx,ty,AW,p.w.length + 1,cW⟩]) (.slice A' (raw.length + 1) c'),eBlk bp 72 [.int .i64 p.x,.int .i64 p.y,.slice rA p.w.length rc],eBlk (w.heap.size + 1) 25 [.slice B1 bl.length d1,.int .i64 k,.slice B2 ms.length d2,.slice B3 es.length d3],eBlk w.heap.size 25 [.slice A1 al.length c1,.int .i64 n,.slice A2 mr.length c2,.slice A3 ed.length c3]] w9 := by
                  have h := S'.pick [2,4,5,3,6,7] (by decide);rw [List.length_append];exact h
                 have h2 := h1.wdsPush tx ty;rw [List.length_append] at h2;obtain ⟨fs2,hfs2⟩ : ∃ f,f = (Value.slice AW ((p.w).length + [(t : Int)].length) cW).ownBlock.toList ++ fs := ⟨_,rfl⟩;rw [← hfs2] at h2;clear hfs2;have S8 : (SepW w [eBlk bp 72 [.int .i64 p.x,.int .i64 p.y,.slice rA p.w.length rc],eWds fs2 (raw ++ [⟨tx,ty,AW,p.w.length + 1,cW⟩]) (l ++ [⟨tx,ty,p.w ++ [(t : Int)]⟩]),eOwn PrV.cells 3 72 (raw ++ [⟨tx,ty,AW,p.w.length + 1,cW⟩]) (.slice A' (raw ++ [(⟨tx,ty,AW,p.w.length + 1,cW⟩ : PrV)]).length c'),eBlk (w.heap.size + 1) 25 [.slice B1 bl.length d1,.int .i64 k,.slice B2 ms.length d2,.slice B3 es.length d3],eBlk w.heap.size 25 [.slice A1 al.length c1,.int .i64 n,.slice A2 mr.length c2,.slice A3 ed.length c3]] w9) := by
                  rw [List.length_append];exact h2.pick [2,0,1,3,4] (by decide)
                 have HLN : Hid ((raw ++ [(⟨tx,ty,AW,p.w.length + 1,cW⟩ : PrV)]).length ≤ N) := by
                  rw [Hid,(S8.out.get 1 rfl).1,← HNE.out];exact PB2.out.len HRA.out HRB.out
                 clear S' h1 h2 S q0 q1 q2;have HR2 : Hid ((raw ++ [(⟨tx,ty,AW,p.w.length + 1,cW⟩ : PrV)])[i]? = some ⟨p.x,p.y,rA,p.w.length,rc⟩) := by rw [Hid,List.getElem?_append_left hlt]; exact HR.out
                 have HP2 : Hid ((l ++ [(⟨tx,ty,p.w ++ [(t : Int)]⟩ : Pw)])[i]? = some p) := by rw [Hid,List.getElem?_append_left hil]; exact HP.out
                 go_wp2_with fail
                 go_roundw
                 case rel => exact ⟨t + 1,raw ++ [(⟨tx,ty,AW,p.w.length + 1,cW⟩ : PrV)],l ++ [(⟨tx,ty,p.w ++ [(t : Int)]⟩ : Pw)],A',c',fs2,by go_num,by rw [List.length_append]; rfl,by rw [List.length_append]; omega,HLN.out,by rw [Hid,List.length_append,List.length_append,hrl.out]; rfl,by omega,HP2.out,HR2.out,PB2.out,S8.out⟩
                 case measure => simp [intOf]; omega
               · have PB2 : Hid (LInv ⟨al,n,mr,ed⟩ ⟨bl,k,ms,es⟩ (x,y) i (t + 1) (i + 1) l) := PB.out.skip HP.out htl (by
                  rw [HST.out];rcases lookV_true HS1.out with h | ⟨r,hr,h5,h6⟩
                  · left
                    rw [← HS0.out] at h;simp only [Bool.and_eq_true,decide_eq_true_eq] at h;rcases CX.out with g | g
                    · rcases CY.out with k' | k'
                      · rw [g,k']
                      · omega
                    · omega
                  · right
                    obtain ⟨j,hj,rfl⟩ := List.mem_iff_getElem.1 hr;have hj2 : j < l.length := by rw [← hrl.out]; exact hj
                    obtain ⟨k1,k2,_⟩ := (S.out.get 3 rfl).2.2 j _ _ (List.getElem?_eq_getElem hj) (List.getElem?_eq_getElem hj2);exact List.mem_map.2 ⟨l[j],List.getElem_mem hj2,by unfold Pw.pr; rw [← k1,← k2,h5,h6]⟩)
                 clear PB CX CY;go_wp2_with fail
                 go_roundw
                 case rel => exact ⟨t + 1,raw,l,_,cR,fs,by go_num,rfl,hlt,hlN,hrl.out,by omega,HP.out,HR.out,PB2.out,S.out.pick [2,3,4,5,6] (by decide)⟩
                 case measure => simp [intOf]; omega
        · obtain rfl : t = 32 := by omega
          have PB2 := Lib.hid PB.out.next;go_wp2_with fail
          go_roundw
          case rel => exact ⟨i + 1,raw,l,AR,cR,fs,by go_num,rfl,by omega,hlN,hrl.out,PB2.out,S.out.drop1⟩
          case measure => simp [intOf]; omega
     · obtain ⟨_,_,hW⟩ := (S6.out.get 1 rfl).2.2 i _ p HR.out HP.out;have HWI : Hid (IntsAt wc rA p.w) := hW.ints (S6.out.get 1 rfl).2.1;have hrn : rn = p.w.length := hW.1;have HWL : Hid (p.w.length ≤ 1000000) := by have := PB.out.word HP.out; simp only [Hid]; omega
       have LW : Hid (LeastW (LeadsTo (stp2 ⟨al,n,mr,ed⟩ ⟨bl,k,ms,es⟩) (x,y) (unionS al bl) (fun q => pdV ⟨al,n,mr,ed⟩ ⟨bl,k,ms,es⟩ q = true)) p.w) := (PB.out.least HRA.out HRB.out HP.out HDD.out).congr (fun u => leads_iff HRA.out HRB.out (x,y) u);clear hW;subst hrn;go_wp2_with fail
       refine bodyPost_ret (v := .tuple #[.slice rA p.w.length rc,.bool true]) (by simp [results,Try.results22,go_sem]) rfl ?_;exact ⟨rA,rc,p.w,true,rfl,HWI.out,S6.out.below,.inl ⟨rfl,LW.out⟩,HWL.out⟩
  · obtain rfl : i = raw.length := by omega
    have FIN : Hid (∀ u,¬ LeadsTo (stp2 ⟨al,n,mr,ed⟩ ⟨bl,k,ms,es⟩) (x,y) (unionS al bl) (fun q => pdV ⟨al,n,mr,ed⟩ ⟨bl,k,ms,es⟩ q = true) u) := fun u hu => by
     have h := PB.out;rw [hrl.out] at h;exact h.none_ HRA.out HRB.out u ((leads_iff HRA.out HRB.out (x,y) u).2 hu)
    go_wp2_with fail
    refine bodyPost_ret (v := .tuple #[.slice none 0 0,.bool false]) (by simp [results,Try.results22,go_sem]) rfl ?_;exact ⟨none,0,[],false,rfl,fun h => absurd rfl h,S.out.below,.inr ⟨rfl,rfl,FIN.out⟩,by simp⟩
end
section
attribute [local go_sem] Oper.semAt_some
end
section
attribute [local go_sem] Oper.semAt_some

def shE (x : Ed) : Ed := ⟨x.src,x.ev + 1,x.dst⟩
def GivesSh (l : List Ed) (w : World) (e : Ending) (w' : World) : Prop := ∃ A c,e = .returned (.slice A (l.map shE).length c) ∧ (SepW w [eEds (l.map shE) (.slice A (l.map shE).length c)] w')
end
section
attribute [local go_sem] Oper.semAt_some

theorem Au.Right.st_rg {a : Au} (h : a.Right) : -1 ≤ a.st ∧ a.st < a.n ∨ a.st = -1 := by
 have := h.n0;unfold Au.st
 split <;> omega
def GivesE8 (a b : Au) (w : World) (e : Ending) (w' : World) : Prop := ∃ (A : Option Addr) (c : Nat) (l : List Int) (f : Bool),e = .returned (.tuple #[.bool (!f),.slice A l.length c]) ∧ Hid (IntsAt w' A l) ∧ Below w.heap.size w w' ∧ Hid (DistW a b a.st b.st f l ∧ l.length ≤ 1000000)
end
end Go.Proofs.Ytjjifefanjnghaa
