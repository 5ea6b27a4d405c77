/-
  overseerlaw08: same, equal, few, example.
  Plain: two states that some word tells apart are told apart by a word that is shorter than the number of states.
  Plain: the automaton of the examples of the chapter on minimal automata.
  overseerlaw08: the examples of the chapter.
-/
import Derived.Test.YtjjifefanjnghaaBas09
import Derived.Test.YtjjifefanjnghaaBas07
import Derived.Test.YtjjifefanjnghaaBas04
set_option linter.unusedSimpArgs false
set_option linter.unusedVariables false
namespace Go.Proofs.Ytjjifefanjnghaa
open Go.RowKit
set_option maxRecDepth 100000
set_option maxHeartbeats 400000 in
theorem same8_c (A1 A2 : Option Addr) (c1 c2 : Nat) (l1 l2 : List Int) (w : World) (h1 : IntsAt w A1 l1) (h2 : IntsAt w A2 l2) (n1 : l1.length ≤ 140737488355328) (n2 : l2.length ≤ 140737488355328) :
 Calls Try.prog 23 #[.slice A1 l1.length c1,.slice A2 l2.length c2] w (Tells (l1 = l2) w) := by
 have H1 := Lib.hid h1
 have H2 := Lib.hid h2
 clear h1 h2
 by_cases hl : l1.length = l2.length
 · go_enter Try.func23,Try.ntmps23
   have HL := Lib.hid hl
   rw [← hl]
   clear hl n2
   go_wp2
   go_loopw [5] (fun i wr => ∃ k : Nat,k ≤ l1.length ∧ i = .int .i64 k ∧ Hid (Below w.heap.size w wr) ∧ Hid (l1.take k = l2.take k)) (fun i _ => l1.length - (intOf i).toNat)
   case atStart => exact ⟨0,by omega,rfl,Below.refl _ _,rfl⟩
   case round =>
    obtain ⟨k,hk,rfl,BW,HN⟩ := hrel
    by_cases hlt : k < l1.length
    · obtain ⟨b,off,x,rfl,hb,hx,e0⟩ := IntsAt.at (H1.out.below IntE.stays BW.out) hlt
      obtain ⟨b2,off2,y,rfl,hb2,hy,g0⟩ := IntsAt.at (H2.out.below IntE.stays BW.out) (HL.out ▸ hlt)
      have HX := Lib.hid hx
      have HY := Lib.hid hy
      clear hx hy
      by_cases hxy : x = y
      · subst hxy
        go_wp2_with fail
        go_quiet (fail)
        go_wp2
        go_roundw
        case rel => exact ⟨k + 1,by omega,by go_num,BW.out.draws _,Lib.hid (by rw [List.take_add_one,List.take_add_one,HN.out,HX.out,HY.out])⟩
        case measure => simp [intOf]; omega
      · have hne : (x == y) = false := by simpa using hxy
        go_wp2_with fail
        go_quiet (fail)
        go_wp2
        go_ret
        exact Tells.no (fun h => by subst h; have := HX.out; rw [HY.out] at this; cases this; exact hxy rfl) (BW.out.draws _)
    · obtain rfl : k = l1.length := by omega
      go_wp2
      go_ret
      exact Tells.yes (by have := HN.out; rw [List.take_length,HL.out,List.take_length] at this; exact this) BW.out
 · have hne : ((l1.length : Int) == (l2.length : Int)) = false := by rw [beq_eq_false_iff_ne]; omega
   go_enter Try.func23,Try.ntmps23
   go_wp2
   go_ret
   exact Tells.no (fun h => hl (by rw [h])) (Below.refl _ _)
set_option maxHeartbeats 400000 in
theorem same4_c (A1 A2 : Option Addr) (c1 c2 : Nat) (l1 l2 : List Int) (w : World) (h1 : IntsAt w A1 l1) (h2 : IntsAt w A2 l2) (n1 : l1.length ≤ 140737488355328) (n2 : l2.length ≤ 140737488355328) :
 Calls Try.prog 87 #[.slice A1 l1.length c1,.slice A2 l2.length c2] w (Tells (l1 = l2) w) := by
 have H1 := Lib.hid h1
 have H2 := Lib.hid h2
 clear h1 h2
 by_cases hl : l1.length = l2.length
 · go_enter Try.func87,Try.ntmps87
   have HL := Lib.hid hl
   rw [← hl]
   clear hl n2
   go_wp2
   go_loopw [5] (fun i wr => ∃ k : Nat,k ≤ l1.length ∧ i = .int .i64 k ∧ Hid (Below w.heap.size w wr) ∧ Hid (l1.take k = l2.take k)) (fun i _ => l1.length - (intOf i).toNat)
   case atStart => exact ⟨0,by omega,rfl,Below.refl _ _,rfl⟩
   case round =>
    obtain ⟨k,hk,rfl,BW,HN⟩ := hrel
    by_cases hlt : k < l1.length
    · obtain ⟨b,off,x,rfl,hb,hx,e0⟩ := IntsAt.at (H1.out.below IntE.stays BW.out) hlt
      obtain ⟨b2,off2,y,rfl,hb2,hy,g0⟩ := IntsAt.at (H2.out.below IntE.stays BW.out) (HL.out ▸ hlt)
      have HX := Lib.hid hx
      have HY := Lib.hid hy
      clear hx hy
      by_cases hxy : x = y
      · subst hxy
        go_wp2_with fail
        go_quiet (fail)
        go_wp2
        go_roundw
        case rel => exact ⟨k + 1,by omega,by go_num,BW.out.draws _,Lib.hid (by rw [List.take_add_one,List.take_add_one,HN.out,HX.out,HY.out])⟩
        case measure => simp [intOf]; omega
      · have hne : (x == y) = false := by simpa using hxy
        go_wp2_with fail
        go_quiet (fail)
        go_wp2
        go_ret
        exact Tells.no (fun h => by subst h; have := HX.out; rw [HY.out] at this; cases this; exact hxy rfl) (BW.out.draws _)
    · obtain rfl : k = l1.length := by omega
      go_wp2
      go_ret
      exact Tells.yes (by have := HN.out; rw [List.take_length,HL.out,List.take_length] at this; exact this) BW.out
 · have hne : ((l1.length : Int) == (l2.length : Int)) = false := by rw [beq_eq_false_iff_ne]; omega
   go_enter Try.func87,Try.ntmps87
   go_wp2
   go_ret
   exact Tells.no (fun h => hl (by rw [h])) (Below.refl _ _)

set_option maxRecDepth 100000 in
set_option maxHeartbeats 4000000 in
theorem eq8_c (a b : Au) (p q : AuP) (w : World) (h1 : Au.At w a p) (h2 : Au.At w b q) :
 Calls Try.prog 19 #[a.val p,b.val q] w (Tells (a = b) w) := by
 have H1 := Lib.hid h1
 have H2 := Lib.hid h2
 obtain ⟨al,n,mr,ed⟩ := a
 obtain ⟨A1,c1,A2,c2,A3,c3⟩ := p
 obtain ⟨bl,m,nr,fd⟩ := b
 obtain ⟨B1,d1,B2,d2,B3,d3⟩ := q
 dsimp only [Au.val]
 clear h1 h2
 go_enter Try.func19,Try.ntmps19
 go_upto_region 1 with fail
 refine wp_world (fun W => Sep w.heap.size w [eBlk (w.heap.size + 1) 25 [.slice B1 bl.length d1,.int .i64 m,.slice B2 nr.length d2,.slice B3 fd.length d3],eBlk w.heap.size 25 [.slice A1 al.length c1,.int .i64 n,.slice A2 mr.length c2,.slice A3 ed.length c3]] W) ?_ fun W S => ?_
 · exact ((Sep.here w).alloc' _ [_,_,_,_] rfl rfl).alloc' _ [_,_,_,_] rfl (by simp)
 have S0 := Lib.hid S
 clear S
 have a0 := BlkAt.cell (S0.out.get 1 rfl) 0; have a1 := BlkAt.cell (S0.out.get 1 rfl) 1; have a2 := BlkAt.cell (S0.out.get 1 rfl) 2; have a3 := BlkAt.cell (S0.out.get 1 rfl) 3; simp only [List.getElem?_cons_succ,List.getElem?_cons_zero] at a0 a1 a2 a3
 have b0 := BlkAt.cell (S0.out.get 0 rfl) 0; have b1 := BlkAt.cell (S0.out.get 0 rfl) 1; have b2 := BlkAt.cell (S0.out.get 0 rfl) 2; have b3 := BlkAt.cell (S0.out.get 0 rfl) 3; simp only [List.getElem?_cons_succ,List.getElem?_cons_zero] at b0 b1 b2 b3
 go_wp2_with fail
 refine (same8_c A1 B1 c1 d1 al bl W (H1.out.below S0.out.below).al (H2.out.below S0.out.below).al H1.out.lal H2.out.lal).mono ?_
 intro e w1 hs
 rcases hs.no1 with ⟨rfl,hq,hb⟩ | ⟨rfl,hq,hb⟩
 · clear a0 a1 a2 a3 b0 b1 b2 b3
   go_wp2_with fail
   go_ret
   exact Tells.no (fun h => hq.out (congrArg Au.al h)) ((S0.out.next hb).below)
 obtain rfl := hq.out
 have S1 := Lib.hid (S0.out.next hb)
 clear hs hq hb S0 a0 a1 a2 a3 b0 b1 b2 b3
 have a0 := BlkAt.cell (S1.out.get 1 rfl) 0; have a1 := BlkAt.cell (S1.out.get 1 rfl) 1; have a2 := BlkAt.cell (S1.out.get 1 rfl) 2; have a3 := BlkAt.cell (S1.out.get 1 rfl) 3; simp only [List.getElem?_cons_succ,List.getElem?_cons_zero] at a0 a1 a2 a3
 have b0 := BlkAt.cell (S1.out.get 0 rfl) 0; have b1 := BlkAt.cell (S1.out.get 0 rfl) 1; have b2 := BlkAt.cell (S1.out.get 0 rfl) 2; have b3 := BlkAt.cell (S1.out.get 0 rfl) 3; simp only [List.getElem?_cons_succ,List.getElem?_cons_zero] at b0 b1 b2 b3
 by_cases hn : n = m
 · subst hn
   go_wp2_with fail
   refine (same8_c A2 B2 c2 d2 mr nr w1 (H1.out.below S1.out.below).mr (H2.out.below S1.out.below).mr H1.out.lmk H2.out.lmk).mono ?_
   intro e w2 hs
   rcases hs.no1 with ⟨rfl,hq,hb⟩ | ⟨rfl,hq,hb⟩
   · clear a0 a1 a2 a3 b0 b1 b2 b3
     go_wp2_with fail
     go_ret
     exact Tells.no (fun h => hq.out (congrArg Au.mr h)) ((S1.out.next hb).below)
   obtain rfl := hq.out
   have S2 := Lib.hid (S1.out.next hb)
   clear hs hq hb S1 a0 a1 a2 a3 b0 b1 b2 b3
   have a0 := BlkAt.cell (S2.out.get 1 rfl) 0; have a1 := BlkAt.cell (S2.out.get 1 rfl) 1; have a2 := BlkAt.cell (S2.out.get 1 rfl) 2; have a3 := BlkAt.cell (S2.out.get 1 rfl) 3; simp only [List.getElem?_cons_succ,List.getElem?_cons_zero] at a0 a1 a2 a3
   have b0 := BlkAt.cell (S2.out.get 0 rfl) 0; have b1 := BlkAt.cell (S2.out.get 0 rfl) 1; have b2 := BlkAt.cell (S2.out.get 0 rfl) 2; have b3 := BlkAt.cell (S2.out.get 0 rfl) 3; simp only [List.getElem?_cons_succ,List.getElem?_cons_zero] at b0 b1 b2 b3
   by_cases hl : ed.length = fd.length
   · have hz : ((ed.length : Int) != (fd.length : Int)) = false := by simp [hl]
     have HL := Lib.hid hl
     clear hl
     go_wp2_with fail
     clear a0 a1 a2 a3 b0 b1 b2 b3
     go_loopw [5] (fun i wr => ∃ k : Nat,k ≤ ed.length ∧ i = .int .i64 k ∧ Hid (Sep w.heap.size w [eBlk (w.heap.size + 1) 25 [.slice B1 al.length d1,.int .i64 n,.slice B2 mr.length d2,.slice B3 fd.length d3],eBlk w.heap.size 25 [.slice A1 al.length c1,.int .i64 n,.slice A2 mr.length c2,.slice A3 ed.length c3]] wr) ∧ Hid (ed.take k = fd.take k)) (fun i _ => ed.length - (intOf i).toNat)
     case atStart => exact ⟨0,by omega,rfl,S2.out,rfl⟩
     case round =>
      clear S2
      obtain ⟨k,hk,rfl,S,HN⟩ := hrel
      have a0 := BlkAt.cell (S.out.get 1 rfl) 0; have a1 := BlkAt.cell (S.out.get 1 rfl) 1; have a2 := BlkAt.cell (S.out.get 1 rfl) 2; have a3 := BlkAt.cell (S.out.get 1 rfl) 3; simp only [List.getElem?_cons_succ,List.getElem?_cons_zero] at a0 a1 a2 a3
      have b0 := BlkAt.cell (S.out.get 0 rfl) 0; have b1 := BlkAt.cell (S.out.get 0 rfl) 1; have b2 := BlkAt.cell (S.out.get 0 rfl) 2; have b3 := BlkAt.cell (S.out.get 0 rfl) 3; simp only [List.getElem?_cons_succ,List.getElem?_cons_zero] at b0 b1 b2 b3
      have hf := HL.out
      have hle : ed.length ≤ 140737488355328 := H1.out.led
      by_cases hlt : k < ed.length
      · have hltf : k < fd.length := by omega
        obtain ⟨b,off,x,rfl,hb,hx,e0,e1,e2⟩ := EdE.cells3 ((H1.out.below S.out.below).ed) hlt
        obtain ⟨b',off',y,rfl,hb2,hy,g0,g1,g2⟩ := EdE.cells3 ((H2.out.below S.out.below).ed) hltf
        have HX := Lib.hid hx
        have HY := Lib.hid hy
        clear hx hy hf
        by_cases hxy : x = y
        · subst hxy
          go_wp2_with fail
          go_quiet (fail)
          go_wp2
          go_roundw
          case rel => exact ⟨k + 1,by omega,by go_num,S.out.draws _,Lib.hid (by rw [List.take_add_one,List.take_add_one,HN.out,HX.out,HY.out])⟩
          case measure => simp [intOf]; omega
        · have NO : Hid (¬ (⟨al,n,mr,ed⟩ : Au) = ⟨al,n,mr,fd⟩) := fun h => by
           have h := congrArg Au.ed h
           simp only at h
           have h1 := HX.out
           rw [h,HY.out] at h1
           exact hxy (Option.some.inj h1).symm
          by_cases h1 : x.src = y.src
          · rw [h1] at e0
            by_cases h2 : x.ev = y.ev
            · rw [h2] at e1
              have h3 : ¬ x.dst = y.dst := fun h3 => hxy (by
               obtain ⟨xs,xe,xd⟩ := x
               obtain ⟨ys,ye,yd⟩ := y
               obtain rfl : xs = ys := h1
               obtain rfl : xe = ye := h2
               obtain rfl : xd = yd := h3
               rfl)
              have hne : (x.dst == y.dst) = false := by simpa using h3
              clear h1 h2 h3 hxy
              go_wp2_with fail
              go_quiet (fail)
              go_wp2
              go_ret
              exact Tells.no NO.out (S.out.draws _).below
            · have hne : (x.ev == y.ev) = false := by simpa using h2
              clear h1 h2 hxy
              go_wp2_with fail
              go_quiet (fail)
              go_wp2
              go_ret
              exact Tells.no NO.out (S.out.draws _).below
          · have hne : (x.src == y.src) = false := by simpa using h1
            clear h1 hxy
            go_wp2_with fail
            go_quiet (fail)
            go_wp2
            go_ret
            exact Tells.no NO.out (S.out.draws _).below
      · obtain rfl : k = ed.length := by omega
        clear hf
        go_wp2_with fail
        go_ret
        exact Tells.yes (by have := HN.out; rw [List.take_length,HL.out,List.take_length] at this; rw [this]) S.out.below
   · have hz : ((ed.length : Int) != (fd.length : Int)) = true := by simp; omega
     go_wp2_with fail
     go_ret
     exact Tells.no (fun h => hl (congrArg (fun a : Au => a.ed.length) h)) S2.out.below
 · have hne : (n != m) = true := by simpa using hn
   go_wp2_with fail
   go_ret
   exact Tells.no (fun h => hn (congrArg Au.n h)) S1.out.below
def FewV (a : Au) : Prop := a.al.length ≤ 6 ∧ a.mr.length ≤ 8 ∧ a.ed.length ≤ 12 ∧ (a.n ≤ 8 ∨ 4096 < a.n)
section

def EqK (a : Au) (k : Nat) (i j : Int) : Prop := ∀ w : List Int,w.length ≤ k → (0 ≤ runV a.ed i w ↔ 0 ≤ runV a.ed j w) ∧ (runV a.ed i w ∈ a.mr ↔ runV a.ed j w ∈ a.mr)
section
variable {a : Au} {k : Nat}
theorem EqK.refl (k : Nat) (i : Int) : EqK a k i i := fun _ _ => ⟨Iff.rfl,Iff.rfl⟩
theorem EqK.symm {i j : Int} (h : EqK a k i j) : EqK a k j i := fun w hw => ⟨(h w hw).1.symm,(h w hw).2.symm⟩
theorem EqK.trans {i j l : Int} (h : EqK a k i j) (g : EqK a k j l) : EqK a k i l := fun w hw => ⟨(h w hw).1.trans (g w hw).1,(h w hw).2.trans (g w hw).2⟩
theorem EqK.less {i j : Int} {m : Nat} (h : EqK a k i j) (hm : m ≤ k) : EqK a m i j := fun w hw => h w (by omega)
theorem runV_cons {l : List Ed} {s e : Int} (h : 0 ≤ s) (r : List Int) : runV l s (e :: r) = runV l (nextV l s e) r := by simp [runV,h]
theorem EqK.next {i j : Int} (h : EqK a (k + 1) i j) (hi : 0 ≤ i) (hj : 0 ≤ j) (e : Int) : EqK a k (nextV a.ed i e) (nextV a.ed j e) := fun w hw => by
 have := h (e :: w) (by simp; omega)
 rw [runV_cons hi,runV_cons hj] at this
 exact this
theorem EqK.stable (hr : a.Right) (hs : ∀ i j : Int,0 ≤ i → i < a.n → 0 ≤ j → j < a.n → EqK a k i j → EqK a (k + 1) i j) : ∀ (w : List Int) (i j : Int),0 ≤ i → i < a.n → 0 ≤ j → j < a.n → EqK a k i j → (0 ≤ runV a.ed i w ↔ 0 ≤ runV a.ed j w) ∧ (runV a.ed i w ∈ a.mr ↔ runV a.ed j w ∈ a.mr)
 | [],i,j,_,_,_,_,h => h [] (by simp)
 | e :: w,i,j,i0,i1,j0,j1,h => by
   have h1 := hs i j i0 i1 j0 j1 h
   have hn := h1.next i0 j0 e
   rw [runV_cons i0,runV_cons j0]
   have hz := (hn [] (by simp)).1
   simp only [runV] at hz
   rcases hr.next_cases i e with g | ⟨g0,g1,_⟩ <;> rcases hr.next_cases j e with k' | ⟨k0,k1,_⟩
   · rw [g,k']; exact ⟨Iff.rfl,Iff.rfl⟩
   · rw [g] at hz; exact absurd (hz.2 k0) (by decide)
   · rw [k'] at hz; exact absurd (hz.1 g0) (by decide)
   · exact EqK.stable hr hs w _ _ g0 g1 k0 k1 hn
open Classical in
noncomputable def reps (a : Au) (n k : Nat) : List Nat := (List.range n).filter fun s => decide (∀ t : Nat,t < s → ¬ EqK a k t s)
theorem mem_reps {n s : Nat} : s ∈ reps a n k ↔ s < n ∧ ∀ t : Nat,t < s → ¬ EqK a k t s := by simp [reps]
theorem reps_nodup (n : Nat) : (reps a n k).Nodup := List.Pairwise.filter _ List.nodup_range
theorem reps_len (n : Nat) : (reps a n k).length ≤ n := Nat.le_trans (List.length_filter_le _ _) (by simp)
theorem least_nat {P : Nat → Prop} (h : ∃ n,P n) : ∃ n,P n ∧ ∀ m,m < n → ¬ P m := by
 obtain ⟨n,hn⟩ := h
 induction n using Nat.strongRecOn with
 | ind n ih =>
   by_cases g : ∃ m,m < n ∧ P m
   · obtain ⟨m,hm,hp⟩ := g
     exact ih m hm hp
   · exact ⟨n,hn,fun m hm hp => g ⟨m,hm,hp⟩⟩
theorem reps_more {n p q : Nat} (hp : p < n) (hq : q < n) (h1 : EqK a k p q) (h2 : ¬ EqK a (k + 1) p q) : (reps a n k).length + 1 ≤ (reps a n (k + 1)).length := by
 obtain ⟨r,hr,hrm⟩ := least_nat (P := fun t => EqK a k t p) ⟨p,EqK.refl _ _⟩
 have hrp : r ≤ p := Nat.le_of_not_lt fun h => hrm p h (EqK.refl _ _)
 obtain ⟨s,⟨hs1,hs2⟩,hsm⟩ := least_nat (P := fun t => EqK a k t p ∧ ¬ EqK a (k + 1) r t) (by
  by_cases g : EqK a (k + 1) r p
  · exact ⟨q,h1.symm,fun h => h2 (g.symm.trans h)⟩
  · exact ⟨p,EqK.refl _ _,g⟩)
 have hsn : s < n := by
  by_cases g : EqK a (k + 1) r p
  · have : s ≤ q := Nat.le_of_not_lt fun h => hsm q h ⟨h1.symm,fun h => h2 (g.symm.trans h)⟩
    omega
  · have : s ≤ p := Nat.le_of_not_lt fun h => hsm p h ⟨EqK.refl _ _,g⟩
    omega
 have hrs : r < s := by
  rcases Nat.lt_trichotomy r s with g | g | g
  · exact g
  · subst g; exact absurd (EqK.refl _ _) hs2
  · exact absurd hs1 (hrm s g)
 have hnew : s ∈ reps a n (k + 1) := mem_reps.2 ⟨hsn,fun t ht h => by
  have h' : EqK a k t p := (h.less (Nat.le_succ k)).trans hs1
  by_cases g : EqK a (k + 1) r t
  · exact hs2 (g.trans h)
  · exact hsm t ht ⟨h',g⟩⟩
 have hold : ¬ s ∈ reps a n k := fun h => (mem_reps.1 h).2 r hrs (hr.trans hs1.symm)
 have := sub_len (s :: reps a n k) (reps a n (k + 1)) (List.nodup_cons.2 ⟨hold,reps_nodup n⟩) (fun x hx => by
  rcases List.mem_cons.1 hx with g | g
  · rw [g]; exact hnew
  · obtain ⟨h1,h2⟩ := mem_reps.1 g
    exact mem_reps.2 ⟨h1,fun t ht h => h2 t ht (h.less (Nat.le_succ k))⟩)
 simpa using this
theorem Eqv.of_bound (hr : a.Right) {i j : Int} (i0 : 0 ≤ i) (i1 : i < a.n) (j0 : 0 ≤ j) (j1 : j < a.n) (h : ∀ w : List Int,(w.length : Int) < a.n → (0 ≤ runV a.ed i w ↔ 0 ≤ runV a.ed j w) ∧ (runV a.ed i w ∈ a.mr ↔ runV a.ed j w ∈ a.mr)) : Eqv a i j := by
 obtain ⟨n,hn⟩ := Int.eq_ofNat_of_zero_le hr.n0
 have hE : EqK a (n - 1) i j := fun w hw => h w (by omega)
 refine Classical.byContradiction fun hne => ?_
 have hns : ∀ k,k < n → ¬ (∀ i j : Int,0 ≤ i → i < a.n → 0 ≤ j → j < a.n → EqK a k i j → EqK a (k + 1) i j) := fun k hk hs =>
  hne fun w => EqK.stable hr hs w i j i0 i1 j0 j1 (hE.less (by omega))
 have hc : ∀ k,k ≤ n → k + 1 ≤ (reps a n k).length := by
  intro k
  induction k with
  | zero =>
    intro _
    have : 0 ∈ reps a n 0 := mem_reps.2 ⟨by omega,fun t ht => by omega⟩
    exact List.length_pos_of_mem this
  | succ k ih =>
    intro hk
    have h1 := ih (by omega)
    have h2 := hns k (by omega)
    refine Classical.byContradiction fun hlt => h2 fun i j i0 i1 j0 j1 hij => Classical.byContradiction fun hno => hlt ?_
    obtain ⟨p,rfl⟩ := Int.eq_ofNat_of_zero_le i0
    obtain ⟨q,rfl⟩ := Int.eq_ofNat_of_zero_le j0
    have := reps_more (n := n) (p := p) (q := q) (by omega) (by omega) hij hno
    omega
 have h1 := hc n (Nat.le_refl _)
 have h2 := reps_len (a := a) (k := n) n
 omega
end
end
theorem Canon.uniq {c d : List Int} {m k : Nat} (hc : Canon c m) (hd : Canon d k) (hl : c.length = d.length) (h : ∀ i j : Nat,i < c.length → j < c.length → (c[i]? = c[j]? ↔ d[i]? = d[j]?)) : c = d := by
 have key : ∀ i : Nat,i < c.length → c[i]? = d[i]? := by
  intro i
  induction i using Nat.strongRecOn with
  | ind i ih =>
    intro hi
    have hid : i < d.length := by omega
    by_cases hj : ∃ j,j < i ∧ c[j]? = c[i]?
    · obtain ⟨j,hji,hje⟩ := hj
      rw [← hje,ih j hji (by omega)]
      exact (h j i (by omega) hi).1 hje
    · have hx : c[i]? = some c[i] := List.getElem?_eq_getElem hi
      have hy : d[i]? = some d[i] := List.getElem?_eq_getElem hid
      have r1 := hc.rg i _ hx
      have r2 := hd.rg i _ hy
      rw [hx,hy]
      rcases Int.lt_trichotomy c[i] d[i] with g | g | g
      · obtain ⟨t,ht,htd⟩ := hd.cn i _ hy c[i].toNat (by omega)
        refine absurd ⟨t,ht,?_⟩ hj
        rw [ih t ht (by omega),htd,hx]
        congr 1; omega
      · rw [g]
      · obtain ⟨t,ht,htd⟩ := hc.cn i _ hx d[i].toNat (by omega)
        refine absurd ⟨t,ht,?_⟩ hj
        refine (h t i (by omega) hi).2 ?_
        rw [← ih t ht (by omega),htd,hy]
        congr 1; omega
 apply List.ext_getElem?
 intro i
 by_cases hi : i < c.length
 · exact key i hi
 · rw [List.getElem?_eq_none (by omega),List.getElem?_eq_none (by omega)]
def exA : Au := ⟨[0,1],4,[3],[⟨0,0,1⟩,⟨0,1,2⟩,⟨1,0,3⟩,⟨2,0,3⟩]⟩
theorem exA_right : exA.Right := by
 refine ⟨fun i x hi hx => ?_,by decide,by decide,fun i x hi hx => ?_,fun i hi x hx => ?_⟩
 · match i,hx with
   | 0,hx => simp [exA] at hx; subst hx; exact ⟨Int.le_refl _,by decide,fun y h0 => absurd h0 (by omega)⟩
   | 1,hx => simp [exA] at hx; subst hx; exact ⟨by decide,by decide,fun y _ hy => by simp [exA] at hy; subst hy; decide⟩
   | i + 2,hx => simp [exA] at hx
 · match i,hx with
   | 0,hx => simp [exA] at hx; subst hx; exact ⟨by decide,by decide,fun y h0 => absurd h0 (by omega)⟩
   | i + 1,hx => simp [exA] at hx
 · match i,hx with
   | 0,hx => simp [exA] at hx; subst hx; exact ⟨by decide,by decide,by decide,by decide,by decide,fun y h0 => absurd h0 (by omega)⟩
   | 1,hx => simp [exA] at hx; subst hx; exact ⟨by decide,by decide,by decide,by decide,by decide,fun y _ hy => by simp [exA] at hy; subst hy; decide⟩
   | 2,hx => simp [exA] at hx; subst hx; exact ⟨by decide,by decide,by decide,by decide,by decide,fun y _ hy => by simp [exA] at hy; subst hy; decide⟩
   | 3,hx => simp [exA] at hx; subst hx; exact ⟨by decide,by decide,by decide,by decide,by decide,fun y _ hy => by simp [exA] at hy; subst hy; decide⟩
   | i + 4,hx => simp [exA] at hx
theorem exA_n12 (e : Int) : nextV exA.ed (1 : Nat) e = nextV exA.ed (2 : Nat) e := by
 by_cases h : e = 0
 · subst h; decide
 · have h' : ¬ (0 : Int) = e := fun g => h g.symm
   simp [nextV,exA,List.find?,h']
theorem exA12 : Eqv exA (1 : Nat) (2 : Nat) := fun w => by
 cases w with
 | nil => decide
 | cons e r =>
   rw [runV_cons (by decide),runV_cons (by decide),show nextV exA.ed (1 : Nat) e = nextV exA.ed (2 : Nat) e from exA_n12 e]
   exact ⟨Iff.rfl,Iff.rfl⟩
theorem Eqv.refl (a : Au) (i : Int) : Eqv a i i := fun _ => ⟨Iff.rfl,Iff.rfl⟩
def exC : List Int := [0,1,1,2]
theorem exC_canon : Canon exC 3 := by
 refine ⟨fun s x h => ?_,fun y hy => ?_,fun s x h y hy => ?_⟩
 · match s,h with
   | 0,h => simp [exC] at h; subst h; decide
   | 1,h => simp [exC] at h; subst h; decide
   | 2,h => simp [exC] at h; subst h; decide
   | 3,h => simp [exC] at h; subst h; decide
   | s + 4,h => simp [exC] at h
 · match y,hy with
   | 0,_ => exact ⟨0,rfl⟩
   | 1,_ => exact ⟨1,rfl⟩
   | 2,_ => exact ⟨3,rfl⟩
   | y + 3,hy => omega
 · match s,h with
   | 0,h => simp [exC] at h; subst h; omega
   | 1,h =>
     simp [exC] at h; subst h
     obtain rfl : y = 0 := by omega
     exact ⟨0,by omega,rfl⟩
   | 2,h =>
     simp [exC] at h; subst h
     obtain rfl : y = 0 := by omega
     exact ⟨0,by omega,rfl⟩
   | 3,h =>
     simp [exC] at h; subst h
     have : y = 0 ∨ y = 1 := by omega
     rcases this with rfl | rfl
     · exact ⟨0,by omega,rfl⟩
     · exact ⟨1,by omega,rfl⟩
   | s + 4,h => simp [exC] at h
theorem exA_no {i j : Nat} (w : List Int) (h : ¬ (0 ≤ runV exA.ed i w ↔ 0 ≤ runV exA.ed j w)) : ¬ Eqv exA i j := fun g => h (g w).1
theorem exA_ker : ∀ i j : Nat,i < 4 → j < 4 → (exC[i]? = exC[j]? ↔ Eqv exA i j) := by
 have n01 : ¬ Eqv exA (0 : Nat) (1 : Nat) := exA_no [1] (by decide)
 have n02 : ¬ Eqv exA (0 : Nat) (2 : Nat) := exA_no [1] (by decide)
 have n03 : ¬ Eqv exA (0 : Nat) (3 : Nat) := exA_no [0] (by decide)
 have n13 : ¬ Eqv exA (1 : Nat) (3 : Nat) := exA_no [0] (by decide)
 have n23 : ¬ Eqv exA (2 : Nat) (3 : Nat) := exA_no [0] (by decide)
 intro i j hi hj
 have h1 : i = 0 ∨ i = 1 ∨ i = 2 ∨ i = 3 := by omega
 have h2 : j = 0 ∨ j = 1 ∨ j = 2 ∨ j = 3 := by omega
 rcases h1 with rfl | rfl | rfl | rfl <;> rcases h2 with rfl | rfl | rfl | rfl
 all_goals first
  | exact ⟨fun _ => Eqv.refl _ _,fun _ => rfl⟩
  | exact ⟨fun _ => exA12,fun _ => rfl⟩
  | exact ⟨fun _ => exA12.symm,fun _ => rfl⟩
  | exact ⟨fun h => by simp [exC] at h,fun h => absurd h n01⟩
  | exact ⟨fun h => by simp [exC] at h,fun h => absurd h n02⟩
  | exact ⟨fun h => by simp [exC] at h,fun h => absurd h n03⟩
  | exact ⟨fun h => by simp [exC] at h,fun h => absurd h n13⟩
  | exact ⟨fun h => by simp [exC] at h,fun h => absurd h n23⟩
  | exact ⟨fun h => by simp [exC] at h,fun h => absurd h.symm n01⟩
  | exact ⟨fun h => by simp [exC] at h,fun h => absurd h.symm n02⟩
  | exact ⟨fun h => by simp [exC] at h,fun h => absurd h.symm n03⟩
  | exact ⟨fun h => by simp [exC] at h,fun h => absurd h.symm n13⟩
  | exact ⟨fun h => by simp [exC] at h,fun h => absurd h.symm n23⟩
theorem exA_classes {c : List Int} {m : Nat} (h1 : c.length = exA.n.toNat) (h2 : Canon c m) (h3 : ∀ i j : Nat,i < c.length → j < c.length → (c[i]? = c[j]? ↔ Eqv exA i j)) : c = exC :=
 h2.uniq exC_canon h1 fun i j hi hj => (h3 i j hi hj).trans (exA_ker i j (by rw [h1] at hi; exact hi) (by rw [h1] at hj; exact hj)).symm
theorem exA_min {m : Au} (h : MinB exA m) : m.n = 3 := by
 obtain ⟨c,k,h1,h2,h3,hal,h4⟩ := h
 obtain rfl := exA_classes h1 h2 h3
 rcases h4 with ⟨h0,_⟩ | ⟨fs,B,hfs,_⟩
 · exact absurd h0 (by decide)
 · have hz := (List.getElem?_eq_some_iff.1 B.z).1
   have hup : ∀ s e,stepS (outK exA fun _ => true) s e = ((outK exA (fun _ => true) s).find? fun x => decide (x.1 = e)).map (·.2) := fun _ _ => rfl
   have cls : ∀ v,v ∈ fs → v = 0 ∨ v = 1 ∨ v = 2 ∨ v = 3 := fun v hv => by
    have := hfs v hv
    have e : exA.n = 4 := rfl
    omega
   have p1 : ∃ (d : Nat) (u : Int),fs[d]? = some u ∧ clsV exC u = 1 := by
    rcases B.step 0 0 B.z 0 with ⟨_,g⟩ | ⟨d,u,t,_,g2,g3,g4⟩
    · exact absurd g (by decide)
    · have : t = 1 := by
       have h : stepS (outK exA fun _ => true) 0 0 = some 1 := by decide
       rw [h] at g3; exact (Option.some.inj g3).symm
      subst this
      exact ⟨d,u,g2,g4⟩
   obtain ⟨d1,u1,q1,q2⟩ := p1
   have hu1 : u1 = 1 ∨ u1 = 2 := by
    rcases cls u1 (List.mem_of_getElem? q1) with rfl | rfl | rfl | rfl
    · exact absurd q2 (by decide)
    · exact .inl rfl
    · exact .inr rfl
    · exact absurd q2 (by decide)
   have p2 : ∃ (d : Nat) (u : Int),fs[d]? = some u ∧ clsV exC u = 2 := by
    have h : stepS (outK exA fun _ => true) u1 0 = some 3 := by rcases hu1 with rfl | rfl <;> decide
    rcases B.step d1 u1 q1 0 with ⟨_,g⟩ | ⟨d,u,t,_,g2,g3,g4⟩
    · rw [h] at g; cases g
    · rw [h] at g3
      obtain rfl := Option.some.inj g3
      exact ⟨d,u,g2,g4⟩
   obtain ⟨d2,u2,q3,q4⟩ := p2
   have e1 := (List.getElem?_eq_some_iff.1 q1).1
   have e2 := (List.getElem?_eq_some_iff.1 q3).1
   have c0 : clsV exC 0 = 0 := by decide
   have n1 : d1 ≠ 0 := fun h => by subst h; rw [B.z] at q1; cases q1; rw [c0] at q2; cases q2
   have n2 : d2 ≠ 0 := fun h => by subst h; rw [B.z] at q3; cases q3; rw [c0] at q4; cases q4
   have n3 : d1 ≠ d2 := fun h => by subst h; rw [q1] at q3; cases q3; rw [q2] at q4; cases q4
   have hle : fs.length ≤ 3 := by
    have := sub_len (fs.map fun v => (clsV exC v).toNat) [0,1,2] (by
     rw [List.nodup_iff_pairwise_ne,List.pairwise_map,List.pairwise_iff_getElem]
     intro i j hi hj hij he
     have h1 := cls fs[i] (List.getElem_mem hi)
     have h2 := cls fs[j] (List.getElem_mem hj)
     have hk : clsV exC fs[i] = clsV exC fs[j] := by
      have pos : ∀ v : Int,v = 0 ∨ v = 1 ∨ v = 2 ∨ v = 3 → 0 ≤ clsV exC v := fun v hv => by rcases hv with rfl | rfl | rfl | rfl <;> decide
      have := pos _ h1; have := pos _ h2; omega
     have := B.nd i j _ _ (List.getElem?_eq_getElem hi) (List.getElem?_eq_getElem hj) hk
     omega) (fun x hx => by
     obtain ⟨v,hv,rfl⟩ := List.mem_map.1 hx
     rcases cls v hv with rfl | rfl | rfl | rfl <;> decide)
    simpa using this
   rw [B.n]
   omega
theorem exA_dist {f : Bool} {l : List Int} (h : DistW exA exA 0 1 f l) : f = true ∧ l = [0] := by
 have hm : ∀ e,e ∈ unionS exA.al exA.al ↔ e = 0 ∨ e = 1 := fun e => by rw [mem_unionS]; simp [exA]
 have is : LeadsTo (stp2 exA exA) (0,1) (unionS exA.al exA.al) (fun q => pdV exA exA q = true) [0] := ⟨fun e he => by
  simp at he; subst he; exact (hm 0).2 (.inl rfl),by decide⟩
 have hl : LeastW (LeadsTo (stp2 exA exA) (0,1) (unionS exA.al exA.al) (fun q => pdV exA exA q = true)) [0] := ⟨is,fun u hu => by
  match u,hu with
  | [],hu => exact absurd hu.2 (by decide)
  | [e],hu =>
    rcases (hm e).1 (hu.1 e (by simp)) with rfl | rfl
    · exact sle.refl _
    · exact .inl (.inr ⟨rfl,.inl (by decide)⟩)
  | e :: e' :: r,hu => exact .inl (.inl (by simp))⟩
 rcases h with ⟨h1,h2⟩ | ⟨_,_,h3⟩
 · exact ⟨h1,h2.uniq hl⟩
 · exact absurd is (h3 _)
theorem exA_inst : InSt exA 0 1 := ⟨⟨by decide,by decide⟩,⟨by decide,by decide⟩⟩
theorem exA_cons : ¬ ConsV exA [0,1,1,1] := fun h => by
 have := (h 1 3 (by decide) (by decide) rfl).1
 exact absurd this (by decide)
theorem exA_mgerr {r : Int} (h0 : r ≠ 0) (h : MgErr exA [0,1,1,1] r) : r = 13 := by
 rcases h with h | ⟨_,⟨h1,_⟩ | ⟨_,⟨x,hx,h2⟩,_⟩ | ⟨_,_,_,h3⟩⟩
 · exact absurd (h.zero.2 exA_right) h0
 · exact absurd rfl h1
 · have e : exA.n = 4 := rfl
   simp at hx
   omega
 · exact h3
theorem ints_new (w : World) (l : List Int) : IntsAt (w.alloc (.cells (l.map (Value.int .i64)).toArray 3)) (some ⟨w.heap.size,0,none⟩) l := IntsAt.blk l (BlkAt.new w 3 (l.map (Value.int .i64)))
def GivesEx (w : World) (e : Ending) (w' : World) : Prop := ∃ X1 x1 X2 x2 X3 x3,e = .returned (.agg #[.slice X1 2 x1,.int .i64 4,.slice X2 1 x2,.slice X3 4 x3]) ∧ Hid (Sep w.heap.size w [eInts [0,1] (.slice X1 2 x1),eInts [3] (.slice X2 1 x2),eEds exA.ed (.slice X3 4 x3)] w')
set_option maxHeartbeats 1000000 in
theorem example8_c (w : World) : Calls Try.prog 35 #[] w (GivesEx w) := by
 go_enter Try.func35,Try.ntmps35
 go_upto_region 1 with fail
 refine wp_world (fun W => Sep w.heap.size w [eBlk w.heap.size 25 [.slice none 0 0,.int .i64 0,.slice none 0 0,.slice none 0 0]] W) ?_ fun W S => ?_
 · exact (Sep.here w).alloc' _ [_,_,_,_] rfl rfl
 have S1 := (S.alloc' 3 [.int .i64 0,.int .i64 1] rfl (g := W.heap.size) rfl).own 0 rfl encI 1 [0,1] rfl (fun _ => rfl) (by decide)
 have S2 := (S1.alloc' 3 [.int .i64 3] rfl (g := W.heap.size + 1) (by simp)).own 0 rfl encI 1 [3] rfl (fun _ => rfl) (by decide)
 have S3 := (S2.alloc' 70 [.int .i64 0,.int .i64 0,.int .i64 1,.int .i64 0,.int .i64 1,.int .i64 2,.int .i64 1,.int .i64 0,.int .i64 3,.int .i64 2,.int .i64 0,.int .i64 3] rfl (g := W.heap.size + 1 + 1) (by simp)).own 0 rfl Ed.cells 3 exA.ed rfl (fun _ => rfl) (by decide)
 have c0 := ckC S3 3 rfl 0 rfl
 have c1 := ckC S3 3 rfl 1 rfl
 have c2 := ckC S3 3 rfl 2 rfl
 have c3 := ckC S3 3 rfl 3 rfl
 have f0 := BlkAt.free (S3.get 3 rfl) 0
 have f1 := BlkAt.free (S3.get 3 rfl) 1
 have f2 := BlkAt.free (S3.get 3 rfl) 2
 have f3 := BlkAt.free (S3.get 3 rfl) 3
 have S4 := Lib.hid ((((S3.set 3 rfl 0 (.slice (some ⟨W.heap.size,0,none⟩) 2 2)).set 3 rfl 1 (.int .i64 4)).set 3 rfl 2 (.slice (some ⟨W.heap.size + 1,0,none⟩) 1 1)).set 3 rfl 3 (.slice (some ⟨W.heap.size + 1 + 1,0,none⟩) 4 4))
 have t0 := BlkAt.cell (S4.out.get 3 rfl) 0
 have t1 := BlkAt.cell (S4.out.get 3 rfl) 1
 have t2 := BlkAt.cell (S4.out.get 3 rfl) 2
 have t3 := BlkAt.cell (S4.out.get 3 rfl) 3
 simp only [List.set_cons_succ,List.set_cons_zero,List.getElem?_cons_succ,List.getElem?_cons_zero] at t0 t1 t2 t3
 clear S S1 S2 S3
 go_wp2_with fail
 refine bodyPost_ret (v := .agg #[.slice (some ⟨W.heap.size,0,none⟩) 2 2,.int .i64 4,.slice (some ⟨W.heap.size + 1,0,none⟩) 1 1,.slice (some ⟨W.heap.size + 1 + 1,0,none⟩) 4 4]) (by simp [results,Try.results35,go_sem, *]) rfl ?_
 exact ⟨_,_,_,_,_,_,rfl,S4.out.pick [2,1,0] (by decide)⟩
theorem ex_lens : Lens exA := ⟨by decide,by decide,by decide⟩
theorem exA_need : (exA.n.toNat + 2) * (exA.n.toNat + 2) ≤ 1000000 := by decide
set_option maxHeartbeats 4000000 in
theorem known8_c (w : World) : Calls Try.prog 11 #[] w (Ret (.bool true) w) := by
 go_enter Try.func11,Try.ntmps11
 go_wp2_with fail
 refine (example8_c w).mono ?_
 rintro e w1 ⟨X1,x1,X2,x2,X3,x3,rfl,T⟩
 have S0 := Lib.hid T.out
 clear T
 have CC : Hid (Calls Try.prog 14 #[.agg #[.slice X1 2 x1,.int .i64 4,.slice X2 1 x2,.slice X3 4 x3]] w1 (GivesKX exA w1)) := classesX_c exA ⟨X1,x1,X2,x2,X3,x3⟩ w1 (fun _ => Sep.auCaps (m := exA) (p := ⟨X1,x1,X2,x2,X3,x3⟩) (es := []) S0.out) (Sep.au (m := exA) (p := ⟨X1,x1,X2,x2,X3,x3⟩) (es := []) S0.out ex_lens)
 go_wp2_with fail
 refine CC.out.mono ?_
 rintro e w2 ⟨r,hr,⟨h0,_,_⟩ | ⟨rfl,gc,c,mc,rfl,T,HK⟩⟩
 · exact absurd (hr.zero.2 exA_right) h0
 obtain rfl := exA_classes HK.out.1 HK.out.2.1 HK.out.2.2
 have S1 : Hid (Sep w.heap.size w [eBlk gc 3 (exC.map (Value.int .i64))] w2) := ((S0.out.news T.out).pick [0] (by decide))
 clear T HK hr CC S0
 go_wp2_with fail
 refine (example8_c w2).mono ?_
 rintro e w3 ⟨X1,x1,X2,x2,X3,x3,rfl,T⟩
 have A0 := Lib.hid T.out
 have S2 : Hid (Sep w.heap.size w [eBlk gc 3 (exC.map (Value.int .i64))] w3) := S1.out.next T.out.below
 clear T S1
 have CC : Hid (Calls Try.prog 15 #[.agg #[.slice X1 2 x1,.int .i64 4,.slice X2 1 x2,.slice X3 4 x3]] w3 (GivesMX exA w3)) := minimizeX_c exA ⟨X1,x1,X2,x2,X3,x3⟩ w3 (fun _ => Sep.auCaps (m := exA) (p := ⟨X1,x1,X2,x2,X3,x3⟩) (es := []) A0.out) (Sep.au (m := exA) (p := ⟨X1,x1,X2,x2,X3,x3⟩) (es := []) A0.out ex_lens)
 go_wp2_with fail
 refine CC.out.mono ?_
 rintro e w4 ⟨r,hr,⟨h0,_,_⟩ | ⟨rfl,m,pm,rfl,T,LN,MI⟩⟩
 · exact absurd (hr.zero.2 exA_right) h0
 have MN := exA_min MI.out
 obtain ⟨ml,mn,mm,me⟩ := m
 obtain ⟨D1,d1,D2,d2,D3,d3⟩ := pm
 obtain rfl : mn = 3 := MN
 have S3 : Hid (Sep w.heap.size w [eBlk gc 3 (exC.map (Value.int .i64))] w4) := S2.out.next T.out.below
 clear T LN MI hr CC A0 S2
 dsimp only [Au.val]
 obtain ⟨b3,h3⟩ : ∃ b,b = w4.heap.size := ⟨_,rfl⟩
 go_upto_region 3 with fail
 rw [← h3]
 refine wp_world (fun V => Sep w.heap.size w [eBlk b3 25 [.slice D1 ml.length d1,.int .i64 3,.slice D2 mm.length d2,.slice D3 me.length d3],eBlk gc 3 (exC.map (Value.int .i64))] V) (S3.out.alloc' 25 [.slice D1 ml.length d1,.int .i64 3,.slice D2 mm.length d2,.slice D3 me.length d3] rfl h3) fun W5 S' => ?_
 have S4 := Lib.hid S'
 clear S' S3 h3
 go_wp2_with fail
 refine (example8_c W5).mono ?_
 rintro e w6 ⟨X1,x1,X2,x2,X3,x3,rfl,T⟩
 have A0 := Lib.hid T.out
 have S5 : Hid (Sep w.heap.size w [eBlk b3 25 [.slice D1 ml.length d1,.int .i64 3,.slice D2 mm.length d2,.slice D3 me.length d3],eBlk gc 3 (exC.map (Value.int .i64))] w6) := S4.out.next T.out.below
 clear T S4
 have CC : Hid (Calls Try.prog 17 #[.agg #[.slice X1 2 x1,.int .i64 4,.slice X2 1 x2,.slice X3 4 x3],.int .i64 0,.int .i64 1] w6 (GivesDX exA 0 1 w6)) := distX_c exA ⟨X1,x1,X2,x2,X3,x3⟩ 0 1 w6 (fun _ => Sep.auCaps (m := exA) (p := ⟨X1,x1,X2,x2,X3,x3⟩) (es := []) A0.out) (fun _ => exA_need) (Sep.au (m := exA) (p := ⟨X1,x1,X2,x2,X3,x3⟩) (es := []) A0.out ex_lens)
 go_wp2_with fail
 refine CC.out.mono ?_
 rintro e w7 ⟨AL,cL,l,f,r,rfl,HL,hb,HD⟩
 obtain ⟨rfl,rfl,rfl⟩ : r = 0 ∧ f = true ∧ l = [0] := by
  rcases HD.out with ⟨h0,_,_,h1 | ⟨_,_,h1⟩⟩ | ⟨h0,_,_,h1⟩
  · exact absurd (h1.zero.2 exA_right) h0
  · exact absurd exA_inst h1
  · exact ⟨h0,exA_dist h1⟩
 have HI7 := Lib.hid HL.out
 have S6 := Lib.hid (S5.out.next hb)
 clear HL hb HD CC A0 S5
 go_wp2_with fail
 refine (example8_c w7).mono ?_
 rintro e w8 ⟨X1,x1,X2,x2,X3,x3,rfl,T⟩
 have A0 := Lib.hid T.out
 have S7 : Hid (Sep w.heap.size w [eBlk b3 25 [.slice D1 ml.length d1,.int .i64 3,.slice D2 mm.length d2,.slice D3 me.length d3],eBlk gc 3 (exC.map (Value.int .i64))] w8) := S6.out.next T.out.below
 have HI8 := Lib.hid (HI7.out.below IntE.stays T.out.below)
 clear T S6 HI7
 obtain ⟨W9,h9⟩ : ∃ W,W = w8.alloc (.cells #[.int .i64 0,.int .i64 1,.int .i64 1,.int .i64 1] 3) := ⟨_,rfl⟩
 have B9 : Below w8.heap.size w8 W9 := by rw [h9]; exact Below.new w8 _
 have A9 := Lib.hid (A0.out.next B9)
 have I9 : Hid (IntsAt W9 (some ⟨w8.heap.size,0,none⟩) [0,1,1,1]) := by rw [h9]; exact ints_new w8 [0,1,1,1]
 have S8 := Lib.hid (S7.out.next B9)
 have HI9 := Lib.hid (HI8.out.below IntE.stays B9)
 have CC : Hid (Calls Try.prog 24 #[.agg #[.slice X1 2 x1,.int .i64 4,.slice X2 1 x2,.slice X3 4 x3],.slice (some ⟨w8.heap.size,0,none⟩) 4 4] W9 (GivesMg exA [0,1,1,1] W9)) := mergeX_c exA ⟨X1,x1,X2,x2,X3,x3⟩ (some ⟨w8.heap.size,0,none⟩) 4 [0,1,1,1] W9 (fun _ => Sep.auCaps (m := exA) (p := ⟨X1,x1,X2,x2,X3,x3⟩) (es := []) A9.out) (Sep.au (m := exA) (p := ⟨X1,x1,X2,x2,X3,x3⟩) (es := []) A9.out ex_lens) I9.out (by decide)
 rw [h9] at CC
 clear A0 S7 HI8 B9 I9 A9
 go_wp2_with fail
 refine CC.out.mono ?_
 clear CC
 rintro e w10 ⟨r,⟨h0,rfl,hb,hme⟩ | ⟨_,_,_,_,_,_,hr⟩⟩
 rotate_left
 · exact absurd hr.out.2.2.2.1 exA_cons
 obtain rfl := exA_mgerr h0 hme
 rw [← h9] at hb
 have S9 := Lib.hid (S8.out.next hb)
 have HI10 := Lib.hid (HI9.out.below IntE.stays hb)
 clear hb hme h0 h9 S8 HI9
 go_upto_region 5 with fail
 obtain ⟨W11,h11⟩ : ∃ W,W = w10.alloc (.cells #[.slice none 0 0,.int .i64 0,.slice none 0 0,.slice none 0 0] 25) := ⟨_,rfl⟩
 have B11 : Below w10.heap.size w10 W11 := by rw [h11]; exact Below.new w10 _
 have S10 := Lib.hid (S9.out.next B11)
 have HI11 := Lib.hid (HI10.out.below IntE.stays B11)
 rw [← h11]
 clear h11 B11 S9 HI10
 have r1 := ckC S10.out 0 rfl 1 rfl
 obtain ⟨W12,h12⟩ : ∃ W,W = W11.alloc (.cells #[.int .i64 0,.int .i64 1,.int .i64 1,.int .i64 2] 3) := ⟨_,rfl⟩
 have B12 : Below W11.heap.size W11 W12 := by rw [h12]; exact Below.new W11 _
 have I12 : Hid (IntsAt W12 (some ⟨W11.heap.size,0,none⟩) [0,1,1,2]) := by rw [h12]; exact ints_new W11 [0,1,1,2]
 have S11 := Lib.hid (S10.out.next B12)
 have HI12 := Lib.hid (HI11.out.below IntE.stays B12)
 have CC : Hid (Calls Try.prog 23 #[.slice (some ⟨gc,0,none⟩) exA.n.toNat exA.n.toNat,.slice (some ⟨W11.heap.size,0,none⟩) 4 4] W12 (Tells (exC = [0,1,1,2]) W12)) := same8_c (some ⟨gc,0,none⟩) (some ⟨W11.heap.size,0,none⟩) 4 4 exC [0,1,1,2] W12 (IntsAt.blk exC (S11.out.get 1 rfl)) I12.out (by decide) (by decide)
 rw [h12] at CC
 clear S10 HI11 B12 I12 r1
 go_wp2_with fail
 refine CC.out.mono ?_
 intro e w13 hs
 clear CC
 rw [← h12] at hs
 obtain ⟨rfl,hb⟩ := hs.yes2 (by first | rfl | trivial)
 have S12 := Lib.hid (S11.out.next hb)
 have HI13 := Lib.hid (HI12.out.below IntE.stays hb)
 clear hs hb h12 S11 HI12
 have r1 := ckC S12.out 0 rfl 1 rfl
 obtain ⟨W14,h14⟩ : ∃ W,W = w13.alloc (.cells #[.int .i64 0] 3) := ⟨_,rfl⟩
 have B14 : Below w13.heap.size w13 W14 := by rw [h14]; exact Below.new w13 _
 have I14 : Hid (IntsAt W14 (some ⟨w13.heap.size,0,none⟩) [0]) := by rw [h14]; exact ints_new w13 [0]
 have S13 := Lib.hid (S12.out.next B14)
 have CC : Hid (Calls Try.prog 23 #[.slice AL 1 cL,.slice (some ⟨w13.heap.size,0,none⟩) 1 1] W14 (Tells (([0] : List Int) = [0]) W14)) := same8_c AL (some ⟨w13.heap.size,0,none⟩) cL 1 [0] [0] W14 (HI13.out.below IntE.stays B14) I14.out (by decide) (by decide)
 rw [h14] at CC
 clear S12 HI13 B14 I14
 dsimp only [List.length_cons,List.length_nil,Nat.zero_add]
 go_wp2_with fail
 refine CC.out.mono ?_
 intro e w15 hs
 clear CC
 rw [← h14] at hs
 obtain ⟨rfl,hb⟩ := hs.yes2 (by first | rfl | trivial)
 have S14 := Lib.hid (S13.out.next hb).below
 clear hs hb h14 S13 r1
 go_wp2_with fail
 go_ret
 exact ⟨rfl,S14.out⟩
end Go.Proofs.Ytjjifefanjnghaa
