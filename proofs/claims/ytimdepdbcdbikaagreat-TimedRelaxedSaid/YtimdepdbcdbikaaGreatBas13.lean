/-
  alphabet.merge and alphabet.Union.
  Plain: the union of two rising lists; automata of pairs.
  alphabet.Union.
  Plain: timed models, their clocks, and what events and the tick do.
  timed: memory words for models; initially, step.
  How the reference's pairs and their words lie in memory.
-/
import Derived.Test.YtimdepdbcdbikaaGreatBas01
import Derived.Test.YtimdepdbcdbikaaGreatBas04
import Derived.Deep.RegionHeld
import Derived.Deep.DeepCutAuto
import Derived.Deep.CutBlock
import Derived.Test.YtimdepdbcdbikaaGreatBas03
import Derived.Test.YtimdepdbcdbikaaGreatBas12
import Derived.Test.YtimdepdbcdbikaaGreatBas11
import Derived.Test.YtimdepdbcdbikaaGreatBas07
import Derived.Deep.RegionHeld3
set_option linter.unusedSimpArgs false
set_option linter.unusedVariables false
namespace Go.Proofs.YtimdepdbcdbikaaGreat
open Go.RowKit
set_option maxRecDepth 100000
def mergeV (f : Bool → Bool → Bool) : List Int → List Int → List Int
 | [],[] => []
 | x :: a,[] => if f true false then x :: mergeV f a [] else mergeV f a []
 | [],y :: b => if f false true then y :: mergeV f [] b else mergeV f [] b
 | x :: a,y :: b =>
   if x < y then (if f true false then x :: mergeV f a (y :: b) else mergeV f a (y :: b))
   else if y < x then (if f false true then y :: mergeV f (x :: a) b else mergeV f (x :: a) b)
   else (if f true true then y :: mergeV f a b else mergeV f a b)
 termination_by a b => a.length + b.length
def inA (a b : List Int) : Bool := match a,b with
 | [],_ => false
 | _ :: _,[] => true
 | x :: _,y :: _ => decide (x ≤ y)
def hdV (a b : List Int) : Int := if inA b a then b.headD 0 else a.headD 0
def dropV (p : Bool) (a : List Int) : List Int := if p then a.tail else a
theorem mergeV_step (f : Bool → Bool → Bool) (a b : List Int) (h : 0 < a.length ∨ 0 < b.length) :
 mergeV f a b = (if f (inA a b) (inA b a) then [hdV a b] else []) ++ mergeV f (dropV (inA a b) a) (dropV (inA b a) b) := by
 cases a with
 | nil =>
   cases b with
   | nil => simp at h
   | cons y b => rw [mergeV]; cases hf : f false true <;> simp [inA,hdV,dropV,hf]
 | cons x a =>
   cases b with
   | nil => rw [mergeV]; cases hf : f true false <;> simp [inA,hdV,dropV,hf]
   | cons y b =>
     rw [mergeV]
     by_cases h1 : x < y
     · have h2 : ¬ y ≤ x := by omega
       have h3 : x ≤ y := by omega
       cases hf : f true false <;> simp [inA,hdV,dropV,h1,h2,h3,hf]
     · by_cases h4 : y < x
       · have h2 : y ≤ x := by omega
         have h3 : ¬ x ≤ y := by omega
         cases hf : f false true <;> simp [inA,hdV,dropV,h1,h2,h3,h4,hf]
       · have h2 : y ≤ x := by omega
         have h3 : x ≤ y := by omega
         cases hf : f true true <;> simp [inA,hdV,dropV,h1,h2,h3,h4,hf]
theorem inA_some {a b : List Int} (h : inA a b = true) : ∃ x r,a = x :: r := by
 cases a with
 | nil => simp [inA] at h
 | cons x r => exact ⟨x,r,rfl⟩
theorem inA_one {a b : List Int} (h : 0 < a.length ∨ 0 < b.length) : inA a b = true ∨ inA b a = true := by
 cases a with
 | nil => cases b with
   | nil => simp at h
   | cons y b => right; rfl
 | cons x a => cases b with
   | nil => left; rfl
   | cons y b => by_cases hxy : x ≤ y
                 · left; simp [inA,hxy]
                 · right; simp [inA]; omega
theorem mergeV_len (f : Bool → Bool → Bool) : ∀ (n : Nat) (a b : List Int),a.length + b.length ≤ n → (mergeV f a b).length ≤ n := by
 intro n
 induction n with
 | zero => intro a b h; obtain rfl : a = [] := List.length_eq_zero_iff.1 (by omega); obtain rfl : b = [] := List.length_eq_zero_iff.1 (by omega); simp [mergeV]
 | succ n ih =>
   intro a b h
   by_cases h0 : 0 < a.length ∨ 0 < b.length
   · rw [mergeV_step f a b h0,List.length_append]
     have h1 : (if f (inA a b) (inA b a) then [hdV a b] else ([] : List Int)).length ≤ 1 := by split <;> simp
     have h2 : (dropV (inA a b) a).length + (dropV (inA b a) b).length ≤ n := by
      rcases inA_one h0 with h2 | h2
      · obtain ⟨x,r,rfl⟩ := inA_some h2
        rw [h2]
        have : (dropV (inA b (x :: r)) b).length ≤ b.length := by unfold dropV; split <;> simp
        simp only [dropV,if_true,List.tail_cons,List.length_cons] at *
        omega
      · obtain ⟨x,r,rfl⟩ := inA_some h2
        rw [h2]
        have : (dropV (inA a (x :: r)) a).length ≤ a.length := by unfold dropV; split <;> simp
        simp only [dropV,if_true,List.tail_cons,List.length_cons] at *
        omega
     have := ih _ _ h2
     omega
   · obtain rfl : a = [] := List.length_eq_zero_iff.1 (by omega)
     obtain rfl : b = [] := List.length_eq_zero_iff.1 (by omega)
     simp [mergeV]
theorem IntsAt.tail {w : World} {g off : Nat} {x : Int} {l : List Int} {cap : Nat} (h : IntsAt w (some ⟨g,off,none⟩) (x :: l)) (hc : (x :: l).length ≤ cap) : ∃ A,(if cap = 1 then some (⟨g,off,none⟩ : Addr) else some ⟨g,off + 1,none⟩) = some A ∧ IntsAt w (some A) l ∧ l.length ≤ cap - 1 := by
 simp only [List.length_cons] at hc
 by_cases h1 : cap = 1
 · subst h1
   obtain rfl : l = [] := List.length_eq_zero_iff.1 (by omega)
   exact ⟨⟨g,off,none⟩,by simp,SlAt.nil,by simp⟩
 · refine ⟨⟨g,off + 1,none⟩,by simp [h1],?_,by omega⟩
   intro hne
   obtain ⟨b,o,e,hb,hr⟩ := h (by simp)
   cases e
   refine ⟨_,_,rfl,hb,fun i y hy => ?_⟩
   obtain ⟨vs,h1,h2,h3⟩ := hr (i + 1) y (by simpa using hy)
   refine ⟨vs,h1,h2,fun j v hj => ?_⟩
   have := h3 j v hj
   rw [show off + 1 + i * 1 + j = off + (i + 1) * 1 + j by omega]
   exact this

theorem union1_c (a b : Bool) (w : World) : Calls Tryz.prog 94 #[.bool a,.bool b] w (Ret (.bool (a || b)) w) := by
 cases a <;> cases b
 all_goals
  go_enter Tryz.func94,Tryz.ntmps94
  go_wp2
  go_ret
  exact ⟨rfl,Below.refl _ _⟩
def GivesMg (l : List Int) (w : World) (e : Ending) (w' : World) : Prop := ∃ A c,e = .returned (.slice A l.length c) ∧ Hid (OwnI w.heap.size l (.slice A l.length c) w') ∧ Below w.heap.size w w'
set_option maxHeartbeats 4000000 in
theorem merge_c (A B : Option Addr) (cA cB : Nat) (a b : List Int) (g : Nat) (f : Bool → Bool → Bool) (eg : ∀ args w,(callFunc g args).run Tryz.prog w = .ok (.enter g args) w) (w : World) (hf : ∀ (V : World) (p q : Bool),Calls Tryz.prog g #[.bool p,.bool q] V (Ret (.bool (f p q)) V))
 (hA : IntsAt w A a) (hB : IntsAt w B b) (ha : a.length ≤ cA) (hb : b.length ≤ cB) (la : a.length + b.length ≤ 100000) :
 Calls Tryz.prog 93 #[.slice A a.length cA,.slice B b.length cB,.func (.func g) #[] #[]] w (GivesMg (mergeV f a b) w) := by
 have HA := Lib.hid hA
 have HB := Lib.hid hB
 have HF := Lib.hid hf
 have ML := Lib.hid (mergeV_len f _ a b (Nat.le_refl _))
 clear hA hB hf
 go_enter Tryz.func93,Tryz.ntmps93
 go_wp2_with fail
 go_loopw [0,1,7] (fun v0 v1 v7 wr => ∃ (A' B' : Option Addr) (na nb cA' cB' : Nat) (a' b' acc : List Int),v0 = .slice A' na cA' ∧ v1 = .slice B' nb cB' ∧ na = a'.length ∧ nb = b'.length ∧ na ≤ cA' ∧ nb ≤ cB' ∧ na ≤ a.length ∧ nb ≤ b.length ∧ Hid (IntsAt w A' a') ∧ Hid (IntsAt w B' b') ∧ Hid (OwnI w.heap.size acc v7 wr) ∧ Hid (Fro w.heap.size w wr) ∧ Hid (acc ++ mergeV f a' b' = mergeV f a b)) (fun v0 v1 _ _ => (match v0 with | .slice _ n _ => n | _ => 0) + (match v1 with | .slice _ n _ => n | _ => 0))
 case atStart => exact ⟨A,B,a.length,b.length,cA,cB,a,b,[],rfl,rfl,rfl,rfl,ha,hb,Nat.le_refl _,Nat.le_refl _,HA.out,HB.out,Own.nil _,Fro.here w,rfl⟩
 case round =>
  obtain ⟨A',B',na,nb,cA',cB',a',b',acc,rfl,rfl,hna,hnb,hca,hcb,hla,hlb,XA,XB,O,R,E⟩ := hrel
  have hacc : acc.length ≤ a.length + b.length := by have := congrArg List.length E.out; rw [List.length_append] at this; have := ML.out; omega
  by_cases h0 : na = 0 ∧ nb = 0
  · obtain ⟨rfl,rfl⟩ := h0
    have EN : Hid (acc = mergeV f a b) := by
     have := E.out
     rw [List.length_eq_zero_iff.1 hna.symm,List.length_eq_zero_iff.1 hnb.symm] at this
     simpa [Hid,mergeV] using this
    obtain ⟨AO,cO,rfl⟩ := O.out.form
    go_wp2_with fail
    refine bodyPost_ret (v := .slice AO acc.length cO) (by simp [results,Tryz.results93,go_sem]) rfl ?_
    exact ⟨AO,cO,by rw [← EN.out],by rw [← EN.out]; exact O.out,R.out.b⟩
  · have e1 : 0 < a'.length ∨ 0 < b'.length := by omega
    have ES : Hid (acc ++ ((if f (inA a' b') (inA b' a') then [hdV a' b'] else []) ++ mergeV f (dropV (inA a' b') a') (dropV (inA b' a') b')) = mergeV f a b) := by rw [Hid,← mergeV_step f a' b' e1]; exact E.out
    have XA2 := Lib.hid (XA.out.below IntE.stays R.out.b)
    have XB2 := Lib.hid (XB.out.below IntE.stays R.out.b)
    clear E e1
    have HNA := Lib.hid hna
    have HNB := Lib.hid hnb
    clear hna hnb
    cases a' with
    | nil =>
      cases b' with
      | nil => exact absurd ⟨HNA.out,HNB.out⟩ h0
      | cons y rb =>
        obtain rfl : na = 0 := HNA.out
        have pb : 0 < nb := by rw [HNB.out]; simp
        have zb : ¬ nb = 0 := by omega
        obtain ⟨gb,ob,y',hBe,_,hy,cb⟩ := IntsAt.at XB2.out (show 0 < (y :: rb).length by simp)
        obtain rfl : y = y' := by simpa using hy
        subst hBe
        rw [Nat.add_zero] at cb
        clear hy h0
        have i1 : inA [] (y :: rb) = false := rfl
        have i2 : inA (y :: rb) [] = true := rfl
        by_cases hB1 : cB' = 1
        all_goals
         go_wp2_with fail
         go_quiet (fail)
         go_wp2_with fail
         go_quiet (fail)
         go_wp2_with fail
         go_quiet (fail)
         go_wp2_with fail
         all_goals
          refine (HF.out _ false true).mono ?_
          rintro e w3 ⟨rfl,hb3⟩
          have R4 := Lib.hid (R.out.next ((Below.refl wr.heap.size wr).draws _ |>.trans hb3))
          have O4 : Hid (OwnI w.heap.size acc u7 w3) := Own.below O.out ((Below.refl wr.heap.size wr).draws _ |>.trans hb3) (Nat.le_refl _)
          clear hb3
          have ES2 : Hid (acc ++ ((if f false true = true then [y] else []) ++ mergeV f [] rb) = mergeV f a b) := by
           have h2 := ES.out
           unfold hdV at h2
           rw [i1,i2] at h2
           exact h2
          obtain ⟨TB,hTB,YB,hcb2⟩ := XB.out.tail (cap := cB') (by rw [← HNB.out]; exact hcb)
          have lnb : rb.length + 1 = nb := HNB.out.symm
          first | rw [if_pos hB1] at hTB | rw [if_neg hB1] at hTB
          cases hTB
          generalize f false true = k at *
          cases k
          · go_wp2_with fail
            go_roundw
            case rel => exact ⟨_,_,_,nb - 1,_,_,[],rb,acc,rfl,rfl,HNA.out,by omega,by omega,by omega,by omega,by omega,XA.out,YB,O4.out,R4.out,by have := ES2; simpa [Hid] using this⟩
            case measure => simp; omega
          · go_wp2_with (at_builtin; refine wpList_push rfl _ _ 31 rfl (O4.out.alloc _) Tryz.underlying31 _ 8 intInfo rfl (by decide) rfl y _ rfl rfl (one_cell _ _ [_] _ rfl) (encI_one _) (by omega) (by decide) (R4.out.alloc _).z ?_)
            intro A2 c2 w5 ho hg hat5
            have R5 := Lib.hid ((R4.out.alloc _).push (O4.out.alloc _) hg)
            have O5 := Lib.hid ho
            clear ho hg hat5
            go_wp2_with fail
            go_roundw
            case rel => exact ⟨_,_,_,nb - 1,_,_,[],rb,acc ++ [y],rfl,rfl,HNA.out,by omega,by omega,by omega,by omega,by omega,XA.out,YB,O5.out,R5.out,by have := ES2; simpa [Hid] using this⟩
            case measure => simp; omega
    | cons x ra =>
      have pa : 0 < na := by rw [HNA.out]; simp
      have za : ¬ na = 0 := by omega
      obtain ⟨ga,oa,x',hAe,_,hx,ca⟩ := IntsAt.at XA2.out (show 0 < (x :: ra).length by simp)
      obtain rfl : x = x' := by simpa using hx
      subst hAe
      rw [Nat.add_zero] at ca
      clear hx h0
      cases b' with
      | nil =>
        obtain rfl : nb = 0 := HNB.out
        have i1 : inA (x :: ra) [] = true := rfl
        have i2 : inA [] (x :: ra) = false := rfl
        by_cases hA1 : cA' = 1
        all_goals
         go_wp2_with fail
         go_quiet (fail)
         go_wp2_with fail
         go_quiet (fail)
         go_wp2_with fail
         go_quiet (fail)
         go_wp2_with fail
         all_goals
          refine (HF.out _ true false).mono ?_
          rintro e w3 ⟨rfl,hb3⟩
          have R4 := Lib.hid (R.out.next ((Below.refl wr.heap.size wr).draws _ |>.trans hb3))
          have O4 : Hid (OwnI w.heap.size acc u7 w3) := Own.below O.out ((Below.refl wr.heap.size wr).draws _ |>.trans hb3) (Nat.le_refl _)
          clear hb3
          have ES2 : Hid (acc ++ ((if f true false = true then [x] else []) ++ mergeV f ra []) = mergeV f a b) := by
           have h2 := ES.out
           unfold hdV at h2
           rw [i1,i2] at h2
           exact h2
          obtain ⟨TA,hTA,YA,hca2⟩ := XA.out.tail (cap := cA') (by rw [← HNA.out]; exact hca)
          have lna : ra.length + 1 = na := HNA.out.symm
          first | rw [if_pos hA1] at hTA | rw [if_neg hA1] at hTA
          cases hTA
          generalize f true false = k at *
          cases k
          · go_wp2_with fail
            go_roundw
            case rel => exact ⟨_,_,na - 1,_,_,_,ra,[],acc,rfl,rfl,by omega,HNB.out,by omega,by omega,by omega,by omega,YA,XB.out,O4.out,R4.out,by have := ES2; simpa [Hid] using this⟩
            case measure => simp; omega
          · go_wp2_with (at_builtin; refine wpList_push rfl _ _ 31 rfl (O4.out.alloc _) Tryz.underlying31 _ 8 intInfo rfl (by decide) rfl x _ rfl rfl (one_cell _ _ [_] _ rfl) (encI_one _) (by omega) (by decide) (R4.out.alloc _).z ?_)
            intro A2 c2 w5 ho hg hat5
            have R5 := Lib.hid ((R4.out.alloc _).push (O4.out.alloc _) hg)
            have O5 := Lib.hid ho
            clear ho hg hat5
            go_wp2_with fail
            go_roundw
            case rel => exact ⟨_,_,na - 1,_,_,_,ra,[],acc ++ [x],rfl,rfl,by omega,HNB.out,by omega,by omega,by omega,by omega,YA,XB.out,O5.out,R5.out,by have := ES2; simpa [Hid] using this⟩
            case measure => simp; omega
      | cons y rb =>
        have pb : 0 < nb := by rw [HNB.out]; simp
        have zb : ¬ nb = 0 := by omega
        obtain ⟨gb,ob,y',hBe,_,hy,cb⟩ := IntsAt.at XB2.out (show 0 < (y :: rb).length by simp)
        obtain rfl : y = y' := by simpa using hy
        subst hBe
        rw [Nat.add_zero] at cb
        clear hy
        by_cases hxy : x < y
        · skip
          have i1 : inA (x :: ra) (y :: rb) = true := by show decide (x ≤ y) = true; simp; omega
          have i2 : inA (y :: rb) (x :: ra) = false := by show decide (y ≤ x) = false; simp; omega
          have q1 : decide (x ≤ y) = true := i1
          have q2 : decide (y ≤ x) = false := i2
          by_cases hA1 : cA' = 1
          all_goals
           go_wp2_with fail
           go_quiet (fail)
           go_wp2_with fail
           go_quiet (fail)
           go_wp2_with fail
           go_quiet (fail)
           go_wp2_with fail
           all_goals
            refine (HF.out _ true false).mono ?_
            rintro e w3 ⟨rfl,hb3⟩
            have R4 := Lib.hid (R.out.next ((Below.refl wr.heap.size wr).draws _ |>.trans hb3))
            have O4 : Hid (OwnI w.heap.size acc u7 w3) := Own.below O.out ((Below.refl wr.heap.size wr).draws _ |>.trans hb3) (Nat.le_refl _)
            clear hb3
            have ES2 : Hid (acc ++ ((if f true false = true then [x] else []) ++ mergeV f ra (y :: rb)) = mergeV f a b) := by
             have h2 := ES.out
             unfold hdV at h2
             rw [i1,i2] at h2
             exact h2
            obtain ⟨TA,hTA,YA,hca2⟩ := XA.out.tail (cap := cA') (by rw [← HNA.out]; exact hca)
            have lna : ra.length + 1 = na := HNA.out.symm
            first | rw [if_pos hA1] at hTA | rw [if_neg hA1] at hTA
            cases hTA
            generalize f true false = k at *
            cases k
            · go_wp2_with fail
              go_roundw
              case rel => exact ⟨_,_,na - 1,nb,_,_,ra,(y :: rb),acc,rfl,rfl,by omega,HNB.out,by omega,by omega,by omega,by omega,YA,XB.out,O4.out,R4.out,by have := ES2; simpa [Hid] using this⟩
              case measure => simp; omega
            · go_wp2_with (at_builtin; refine wpList_push rfl _ _ 31 rfl (O4.out.alloc _) Tryz.underlying31 _ 8 intInfo rfl (by decide) rfl x _ rfl rfl (one_cell _ _ [_] _ rfl) (encI_one _) (by omega) (by decide) (R4.out.alloc _).z ?_)
              intro A2 c2 w5 ho hg hat5
              have R5 := Lib.hid ((R4.out.alloc _).push (O4.out.alloc _) hg)
              have O5 := Lib.hid ho
              clear ho hg hat5
              go_wp2_with fail
              go_roundw
              case rel => exact ⟨_,_,na - 1,nb,_,_,ra,(y :: rb),acc ++ [x],rfl,rfl,by omega,HNB.out,by omega,by omega,by omega,by omega,YA,XB.out,O5.out,R5.out,by have := ES2; simpa [Hid] using this⟩
              case measure => simp; omega
        · by_cases hyx : y < x
          · skip
            have i1 : inA (x :: ra) (y :: rb) = false := by show decide (x ≤ y) = false; simp; omega
            have i2 : inA (y :: rb) (x :: ra) = true := by show decide (y ≤ x) = true; simp; omega
            have q1 : decide (x ≤ y) = false := i1
            have q2 : decide (y ≤ x) = true := i2
            by_cases hB1 : cB' = 1
            all_goals
             go_wp2_with fail
             go_quiet (fail)
             go_wp2_with fail
             go_quiet (fail)
             go_wp2_with fail
             go_quiet (fail)
             go_wp2_with fail
             all_goals
              refine (HF.out _ false true).mono ?_
              rintro e w3 ⟨rfl,hb3⟩
              have R4 := Lib.hid (R.out.next ((Below.refl wr.heap.size wr).draws _ |>.trans hb3))
              have O4 : Hid (OwnI w.heap.size acc u7 w3) := Own.below O.out ((Below.refl wr.heap.size wr).draws _ |>.trans hb3) (Nat.le_refl _)
              clear hb3
              have ES2 : Hid (acc ++ ((if f false true = true then [y] else []) ++ mergeV f (x :: ra) rb) = mergeV f a b) := by
               have h2 := ES.out
               unfold hdV at h2
               rw [i1,i2] at h2
               exact h2
              obtain ⟨TB,hTB,YB,hcb2⟩ := XB.out.tail (cap := cB') (by rw [← HNB.out]; exact hcb)
              have lnb : rb.length + 1 = nb := HNB.out.symm
              first | rw [if_pos hB1] at hTB | rw [if_neg hB1] at hTB
              cases hTB
              generalize f false true = k at *
              cases k
              · go_wp2_with fail
                go_roundw
                case rel => exact ⟨_,_,na,nb - 1,_,_,(x :: ra),rb,acc,rfl,rfl,HNA.out,by omega,by omega,by omega,by omega,by omega,XA.out,YB,O4.out,R4.out,by have := ES2; simpa [Hid] using this⟩
                case measure => simp; omega
              · go_wp2_with (at_builtin; refine wpList_push rfl _ _ 31 rfl (O4.out.alloc _) Tryz.underlying31 _ 8 intInfo rfl (by decide) rfl y _ rfl rfl (one_cell _ _ [_] _ rfl) (encI_one _) (by omega) (by decide) (R4.out.alloc _).z ?_)
                intro A2 c2 w5 ho hg hat5
                have R5 := Lib.hid ((R4.out.alloc _).push (O4.out.alloc _) hg)
                have O5 := Lib.hid ho
                clear ho hg hat5
                go_wp2_with fail
                go_roundw
                case rel => exact ⟨_,_,na,nb - 1,_,_,(x :: ra),rb,acc ++ [y],rfl,rfl,HNA.out,by omega,by omega,by omega,by omega,by omega,XA.out,YB,O5.out,R5.out,by have := ES2; simpa [Hid] using this⟩
                case measure => simp; omega
          · skip
            have i1 : inA (x :: ra) (y :: rb) = true := by show decide (x ≤ y) = true; simp; omega
            have i2 : inA (y :: rb) (x :: ra) = true := by show decide (y ≤ x) = true; simp; omega
            have q1 : decide (x ≤ y) = true := i1
            have q2 : decide (y ≤ x) = true := i2
            by_cases hA1 : cA' = 1
            all_goals by_cases hB1 : cB' = 1
            all_goals skip
            all_goals
             go_wp2_with fail
             go_quiet (fail)
             go_wp2_with fail
             go_quiet (fail)
             go_wp2_with fail
             go_quiet (fail)
             go_wp2_with fail
             all_goals go_quiet (fail)
             all_goals go_wp2_with fail
             all_goals
              refine (HF.out _ true true).mono ?_
              rintro e w3 ⟨rfl,hb3⟩
              have R4 := Lib.hid (R.out.next ((Below.refl wr.heap.size wr).draws _ |>.trans hb3))
              have O4 : Hid (OwnI w.heap.size acc u7 w3) := Own.below O.out ((Below.refl wr.heap.size wr).draws _ |>.trans hb3) (Nat.le_refl _)
              clear hb3
              have ES2 : Hid (acc ++ ((if f true true = true then [y] else []) ++ mergeV f ra rb) = mergeV f a b) := by
               have h2 := ES.out
               unfold hdV at h2
               rw [i1,i2] at h2
               exact h2
              obtain ⟨TA,hTA,YA,hca2⟩ := XA.out.tail (cap := cA') (by rw [← HNA.out]; exact hca)
              have lna : ra.length + 1 = na := HNA.out.symm
              first | rw [if_pos hA1] at hTA | rw [if_neg hA1] at hTA
              cases hTA
              obtain ⟨TB,hTB,YB,hcb2⟩ := XB.out.tail (cap := cB') (by rw [← HNB.out]; exact hcb)
              have lnb : rb.length + 1 = nb := HNB.out.symm
              first | rw [if_pos hB1] at hTB | rw [if_neg hB1] at hTB
              cases hTB
              generalize f true true = k at *
              cases k
              · go_wp2_with fail
                go_roundw
                case rel => exact ⟨_,_,na - 1,nb - 1,_,_,ra,rb,acc,rfl,rfl,by omega,by omega,by omega,by omega,by omega,by omega,YA,YB,O4.out,R4.out,by have := ES2; simpa [Hid] using this⟩
                case measure => simp; omega
              · go_wp2_with (at_builtin; refine wpList_push rfl _ _ 31 rfl (O4.out.alloc _) Tryz.underlying31 _ 8 intInfo rfl (by decide) rfl y _ rfl rfl (one_cell _ _ [_] _ rfl) (encI_one _) (by omega) (by decide) (R4.out.alloc _).z ?_)
                intro A2 c2 w5 ho hg hat5
                have R5 := Lib.hid ((R4.out.alloc _).push (O4.out.alloc _) hg)
                have O5 := Lib.hid ho
                clear ho hg hat5
                go_wp2_with fail
                go_roundw
                case rel => exact ⟨_,_,na - 1,nb - 1,_,_,ra,rb,acc ++ [y],rfl,rfl,by omega,by omega,by omega,by omega,by omega,by omega,YA,YB,O5.out,R5.out,by have := ES2; simpa [Hid] using this⟩
                case measure => simp; omega
section

def orF : Bool → Bool → Bool := fun p q => p || q
def unionV (a b : List Int) : List Int := mergeV orF a b
theorem mem_unionV : ∀ (n : Nat) (a b : List Int),a.length + b.length ≤ n → ∀ x,x ∈ unionV a b ↔ x ∈ a ∨ x ∈ b := by
 intro n
 induction n with
 | zero =>
   intro a b h x
   obtain rfl : a = [] := List.length_eq_zero_iff.1 (by omega)
   obtain rfl : b = [] := List.length_eq_zero_iff.1 (by omega)
   simp [unionV,mergeV]
 | succ n ih =>
   intro a b h x
   cases a with
   | nil =>
     cases b with
     | nil => simp [unionV,mergeV]
     | cons y b =>
       have := ih [] b (by simp at h ⊢; omega) x
       unfold unionV at *
       rw [mergeV,if_pos (by decide),List.mem_cons,this]
       simp
   | cons z a =>
     cases b with
     | nil =>
       have := ih a [] (by simp at h ⊢; omega) x
       unfold unionV at *
       rw [mergeV,if_pos (by decide),List.mem_cons,this]
       simp
     | cons y b =>
       have h1 := ih a (y :: b) (by simp at h ⊢; omega) x
       have h2 := ih (z :: a) b (by simp at h ⊢; omega) x
       have h3 := ih a b (by simp at h ⊢; omega) x
       unfold unionV at *
       rw [mergeV]
       split
       · rw [if_pos (by decide),List.mem_cons,h1]
         simp only [List.mem_cons]
         constructor
         · rintro (g | g | g | g) <;> simp [g]
         · rintro ((g | g) | g | g) <;> simp [g]
       · split
         · rw [if_pos (by decide),List.mem_cons,h2]
           simp only [List.mem_cons]
           constructor
           · rintro (g | (g | g) | g) <;> simp [g]
           · rintro ((g | g) | g | g) <;> simp [g]
         · have e : z = y := by omega
           rw [if_pos (by decide),List.mem_cons,h3]
           simp only [List.mem_cons,e]
           constructor
           · rintro (g | g | g) <;> simp [g]
           · rintro ((g | g) | g | g) <;> simp [g]
theorem rises_cons {x : Int} {l : List Int} (h : Rises (fun p q : Int => p < q) l) (hx : ∀ y,y ∈ l → x < y) : Rises (fun p q : Int => p < q) (x :: l) := by
 intro i j u v hij hu hv
 cases i with
 | zero =>
   obtain ⟨j',rfl⟩ : ∃ j',j = j' + 1 := ⟨j - 1,by omega⟩
   simp at hu hv; subst hu
   exact hx v (List.mem_of_getElem? hv)
 | succ i =>
   obtain ⟨j',rfl⟩ : ∃ j',j = j' + 1 := ⟨j - 1,by omega⟩
   exact h i j' u v (by omega) (by simpa using hu) (by simpa using hv)
theorem rises_unionV : ∀ (n : Nat) (a b : List Int),a.length + b.length ≤ n → Rises (fun p q : Int => p < q) a → Rises (fun p q : Int => p < q) b → Rises (fun p q : Int => p < q) (unionV a b) := by
 intro n
 induction n with
 | zero =>
   intro a b h ha hb
   obtain rfl : a = [] := List.length_eq_zero_iff.1 (by omega)
   obtain rfl : b = [] := List.length_eq_zero_iff.1 (by omega)
   unfold unionV; rw [mergeV]; exact ha
 | succ n ih =>
   intro a b h ha hb
   cases a with
   | nil =>
     cases b with
     | nil => unfold unionV; rw [mergeV]; exact ha
     | cons y b =>
       have h1 := ih [] b (by simp at h ⊢; omega) ha hb.tail
       have m := mem_unionV _ [] b (Nat.le_refl _)
       unfold unionV at *
       rw [mergeV,if_pos (by decide)]
       refine rises_cons h1 fun u hu => hb.head u ?_
       simpa using (m u).1 hu
   | cons z a =>
     cases b with
     | nil =>
       have h1 := ih a [] (by simp at h ⊢; omega) ha.tail hb
       have m := mem_unionV _ a [] (Nat.le_refl _)
       unfold unionV at *
       rw [mergeV,if_pos (by decide)]
       refine rises_cons h1 fun u hu => ha.head u ?_
       simpa using (m u).1 hu
     | cons y b =>
       have h1 := ih a (y :: b) (by simp at h ⊢; omega) ha.tail hb
       have h2 := ih (z :: a) b (by simp at h ⊢; omega) ha hb.tail
       have h3 := ih a b (by simp at h ⊢; omega) ha.tail hb.tail
       have m1 := mem_unionV _ a (y :: b) (Nat.le_refl _)
       have m2 := mem_unionV _ (z :: a) b (Nat.le_refl _)
       have m3 := mem_unionV _ a b (Nat.le_refl _)
       unfold unionV at *
       rw [mergeV]
       split
       · rename_i hlt
         rw [if_pos (by decide)]
         refine rises_cons h1 fun u hu => ?_
         rcases (m1 u).1 hu with g | g
         · exact ha.head u g
         · rcases List.mem_cons.1 g with rfl | g
           · exact hlt
           · exact Int.lt_trans hlt (hb.head u g)
       · split
         · rename_i hlt
           rw [if_pos (by decide)]
           refine rises_cons h2 fun u hu => ?_
           rcases (m2 u).1 hu with g | g
           · rcases List.mem_cons.1 g with rfl | g
             · exact hlt
             · exact Int.lt_trans hlt (ha.head u g)
           · exact hb.head u g
         · rw [if_pos (by decide)]
           have e : z = y := by omega
           refine rises_cons h3 fun u hu => ?_
           rcases (m3 u).1 hu with g | g
           · rw [← e]; exact ha.head u g
           · exact hb.head u g
theorem setOk_of {l : List Int} {n : Int} (h : Rises (fun p q : Int => p < q) l) (hr : ∀ x,x ∈ l → 0 ≤ x ∧ x < n) : setOk l n l.length := by
 intro j x hj hx
 have := hr x (List.mem_of_getElem? hx)
 exact ⟨this.1,this.2,fun y h0 hy => h (j - 1) j y x (by omega) hy hx⟩
theorem setOk.rgU {l : List Int} {n : Int} (h : setOk l n l.length) {x : Int} (hx : x ∈ l) : 0 ≤ x ∧ x < n := by
 obtain ⟨i,hi,rfl⟩ := List.mem_iff_getElem.1 hx
 have := h i _ hi (List.getElem?_eq_getElem hi)
 exact ⟨this.1,this.2.1⟩
section
variable {a b : Au} {al : List Int}
def outP (a b : Au) (al : List Int) (v : Int × Int) : List (Int × (Int × Int)) := al.map fun e => (e,stp2 a b v e)
def rgP (a b : Au) (v : Int × Int) : Prop := (v.1 = -1 ∨ 0 ≤ v.1 ∧ v.1 < a.n) ∧ (v.2 = -1 ∨ 0 ≤ v.2 ∧ v.2 < b.n)
end
end
set_option maxHeartbeats 1000000 in
theorem union_c (A B : Option Addr) (cA cB : Nat) (a b : List Int) (w : World) (hA : IntsAt w A a) (hB : IntsAt w B b) (ha : a.length ≤ cA) (hb : b.length ≤ cB) (la : a.length + b.length ≤ 100000) :
 Calls Tryz.prog 63 #[.slice A a.length cA,.slice B b.length cB] w (GivesMg (unionV a b) w) := by
 have HC : Hid (Calls Tryz.prog 93 #[.slice A a.length cA,.slice B b.length cB,.func (.func 94) #[] #[]] w (GivesMg (unionV a b) w)) :=
  merge_c A B cA cB a b _ orF (fun args w => by rfl) w (fun V p q => union1_c p q V) hA hB ha hb la
 clear hA hB
 go_enter Tryz.func63,Tryz.ntmps63
 go_wp2_with fail
 refine HC.out.mono ?_
 rintro e w' ⟨A',c',rfl,h1,h2⟩
 go_wp2_with fail
 go_ret
 exact ⟨A',c',rfl,h1,h2⟩
section
structure Ac where
 ev : Int
 lo : Int
 up : Int
 deriving DecidableEq
def Ac.cells (x : Ac) : List Value := [.int .i64 x.ev,.int .i64 x.lo,.int .i64 x.up]
def Ac.df (x : Ac) : Int := if x.up < 0 then x.lo else x.up
structure Md where
 a : Au
 ac : List Ac
 tk : Int
abbrev Ck := Int × List Int
def Md.dfs (m : Md) : List Int := m.ac.map Ac.df
def Md.ev (m : Md) (i : Nat) : Int := (m.ac[i]?.map Ac.ev).getD (-1)
def Md.nx (m : Md) (s : Int) (i : Nat) : Int := nextV m.a.ed s (m.ev i)
def Md.pr (m : Md) (s : Int) (i : Nat) : Bool := decide (0 ≤ m.nx s i)
def Ac.may (x : Ac) (t : Int) : Bool := if x.up < 0 then decide (t = 0) else decide (t ≤ x.up - x.lo)
def tmr (c : Ck) (i : Nat) : Int := c.2.getD i 0
def Md.at (m : Md) (i : Nat) : Ac := m.ac.getD i ⟨0,0,0⟩
def Md.may (m : Md) (c : Ck) (i : Nat) : Bool := m.pr c.1 i && (m.at i).may (tmr c i)
def Md.urg (m : Md) (c : Ck) (i : Nat) : Bool := m.pr c.1 i && decide (0 ≤ (m.at i).up) && decide (tmr c i = 0)
def Md.fall (m : Md) (c : Ck) (k : Nat) : List Int := (List.range m.ac.length).map fun i => if i < k ∧ m.pr c.1 i = true ∧ 0 < tmr c i then tmr c i - 1 else tmr c i
def Md.tick (m : Md) (c : Ck) : Option Ck := if (List.range m.ac.length).any (m.urg c) then none else some (c.1,m.fall c m.ac.length)
def Md.then_ (m : Md) (c : Ck) (i k : Nat) : List Int := (List.range m.ac.length).map fun j => if j < k ∧ j ≠ i ∧ m.pr c.1 j = true ∧ m.pr (m.nx c.1 i) j = true then tmr c j else (m.at j).df
def Md.act (m : Md) (c : Ck) (i : Nat) : Option Ck := if m.may c i then some (m.nx c.1 i,m.then_ c i m.ac.length) else none
def Md.idx (m : Md) (e : Int) : Nat := (m.ac.map Ac.ev).findIdx fun x => decide (x = e)
def Md.eff (m : Md) (e : Int) (c : Ck) : Option Ck := if e = m.tk then m.tick c else m.act c (m.idx e)
def Md.all (m : Md) : List Int := unionV m.a.al [m.tk]
def Md.start (m : Md) : Ck := (0,m.dfs)
structure Md.Ok (m : Md) : Prop where
 a : m.a.Right
 tk : 0 ≤ m.tk ∧ m.tk < 32
 no : ¬ m.tk ∈ m.a.al
 ev : m.ac.map Ac.ev = m.a.al
 bd : ∀ x,x ∈ m.ac → (0 ≤ x.lo ∧ x.lo ≤ 16) ∧ (x.up = -1 ∨ x.lo ≤ x.up ∧ x.up ≤ 16)
structure Md.Is (m : Md) (c : Ck) : Prop where
 s : 0 ≤ c.1 ∧ c.1 < m.a.n
 len : c.2.length = m.ac.length
 t : ∀ i : Nat,i < m.ac.length → 0 ≤ tmr c i ∧ tmr c i ≤ (m.at i).df
section
variable {m : Md}
theorem Md.at_get {i : Nat} {x : Ac} (h : m.ac[i]? = some x) : m.at i = x := by unfold Md.at; rw [List.getD_eq_getElem?_getD,h]; rfl
theorem Md.ev_get {i : Nat} {x : Ac} (h : m.ac[i]? = some x) : m.ev i = x.ev := by unfold Md.ev; rw [h]; rfl
theorem Md.at_mem {i : Nat} (h : i < m.ac.length) : m.at i ∈ m.ac := by unfold Md.at; rw [List.getD_eq_getElem?_getD,List.getElem?_eq_getElem h]; exact List.getElem_mem h
theorem tmr_get {c : Ck} {i : Nat} (h : i < c.2.length) : c.2[i]? = some (tmr c i) := by unfold tmr; rw [List.getD_eq_getElem?_getD,List.getElem?_eq_getElem h]; rfl
theorem Md.Ok.df (h : m.Ok) {i : Nat} (hi : i < m.ac.length) : 0 ≤ (m.at i).df ∧ (m.at i).df ≤ 16 := by
 have := h.bd _ (Md.at_mem hi)
 unfold Ac.df
 split <;> omega
theorem Md.Ok.len (h : m.Ok) : m.ac.length = m.a.al.length := by rw [← h.ev,List.length_map]
theorem Md.Ok.len32 (h : m.Ok) : m.ac.length ≤ 32 := by
 rw [h.len]
 have := rises_len (n := 32) (l := m.a.al) h.a.al.incr (fun x hx => by
  obtain ⟨i,hi,rfl⟩ := List.mem_iff_getElem.1 hx
  have := h.a.al i _ hi (List.getElem?_eq_getElem hi)
  exact ⟨this.1,this.2.1⟩)
 exact this
theorem Md.nx_rg (h : m.Ok) (s : Int) (i : Nat) : m.nx s i = -1 ∨ 0 ≤ m.nx s i ∧ m.nx s i < m.a.n := by
 rcases h.a.next_cases s (m.ev i) with g | ⟨g,k,_⟩
 · exact .inl g
 · exact .inr ⟨g,k⟩
theorem Md.fall_len (c : Ck) (k : Nat) : (m.fall c k).length = m.ac.length := by simp [Md.fall]
theorem Md.then_len (c : Ck) (i k : Nat) : (m.then_ c i k).length = m.ac.length := by simp [Md.then_]
theorem Md.fall_get (c : Ck) (k : Nat) {i : Nat} (hi : i < m.ac.length) : (m.fall c k)[i]? = some (if i < k ∧ m.pr c.1 i = true ∧ 0 < tmr c i then tmr c i - 1 else tmr c i) := by
 simp [Md.fall,List.getElem?_map,List.getElem?_range hi]
theorem Md.then_get (c : Ck) (i k : Nat) {j : Nat} (hj : j < m.ac.length) : (m.then_ c i k)[j]? = some (if j < k ∧ j ≠ i ∧ m.pr c.1 j = true ∧ m.pr (m.nx c.1 i) j = true then tmr c j else (m.at j).df) := by
 simp [Md.then_,List.getElem?_map,List.getElem?_range hj]
theorem list_eq_of {α : Type} {l l' : List α} {n : Nat} (h1 : l.length = n) (h2 : l'.length = n) (h : ∀ i,i < n → l[i]? = l'[i]?) : l = l' := by
 apply List.ext_getElem?
 intro i
 by_cases hi : i < n
 · exact h i hi
 · rw [List.getElem?_eq_none (by omega),List.getElem?_eq_none (by omega)]
theorem Md.fall_zero {c : Ck} (h : c.2.length = m.ac.length) : m.fall c 0 = c.2 :=
 list_eq_of (Md.fall_len c 0) h fun i hi => by rw [Md.fall_get c 0 hi,tmr_get (by omega),if_neg (by omega)]
theorem Md.then_zero (c : Ck) (i : Nat) : m.then_ c i 0 = m.dfs :=
 list_eq_of (Md.then_len c i 0) (by simp [Md.dfs]) fun j hj => by
  rw [Md.then_get c i 0 hj,if_neg (by omega)]
  simp [Md.dfs,List.getElem?_map,List.getElem?_eq_getElem hj,Md.at,List.getD_eq_getElem?_getD]
theorem Md.fall_next {c : Ck} {k : Nat} (hk : k < m.ac.length) : m.fall c (k + 1) = if m.pr c.1 k = true ∧ 0 < tmr c k then (m.fall c k).set k (tmr c k - 1) else m.fall c k := by
 refine list_eq_of (Md.fall_len c _) (by split <;> simp [Md.fall_len]) fun i hi => ?_
 rw [Md.fall_get c _ hi]
 by_cases e : i = k
 · subst e
   by_cases h : m.pr c.1 i = true ∧ 0 < tmr c i
   · rw [if_pos h,if_pos ⟨by omega,h⟩,List.getElem?_set_self (by rw [Md.fall_len]; exact hi)]
   · rw [if_neg h,if_neg (fun g => h g.2),Md.fall_get c _ hi,if_neg (by omega)]
 · have hs : ∀ v,((m.fall c k).set k v)[i]? = (m.fall c k)[i]? := fun v => List.getElem?_set_ne (Ne.symm e)
   have : (if m.pr c.1 k = true ∧ 0 < tmr c k then (m.fall c k).set k (tmr c k - 1) else m.fall c k)[i]? = (m.fall c k)[i]? := by split <;> simp [hs]
   rw [this,Md.fall_get c _ hi]
   have e2 : (i < k + 1) ↔ i < k := by omega
   simp only [e2]
theorem Md.then_next {c : Ck} {i k : Nat} (hk : k < m.ac.length) : m.then_ c i (k + 1) = if k ≠ i ∧ m.pr c.1 k = true ∧ m.pr (m.nx c.1 i) k = true then (m.then_ c i k).set k (tmr c k) else m.then_ c i k := by
 refine list_eq_of (Md.then_len c i _) (by split <;> simp [Md.then_len]) fun j hj => ?_
 rw [Md.then_get c i _ hj]
 by_cases e : j = k
 · subst e
   by_cases h : j ≠ i ∧ m.pr c.1 j = true ∧ m.pr (m.nx c.1 i) j = true
   · rw [if_pos h,if_pos ⟨by omega,h⟩,List.getElem?_set_self (by rw [Md.then_len]; exact hj)]
   · rw [if_neg h,if_neg (fun g => h g.2),Md.then_get c i _ hj,if_neg (by omega)]
 · have hs : ∀ v,((m.then_ c i k).set k v)[j]? = (m.then_ c i k)[j]? := fun v => List.getElem?_set_ne (Ne.symm e)
   have : (if k ≠ i ∧ m.pr c.1 k = true ∧ m.pr (m.nx c.1 i) k = true then (m.then_ c i k).set k (tmr c k) else m.then_ c i k)[j]? = (m.then_ c i k)[j]? := by split <;> simp [hs]
   rw [this,Md.then_get c i _ hj]
   have e2 : (j < k + 1) ↔ j < k := by omega
   simp only [e2]
theorem Md.fall_at (c : Ck) (s : Int) (k : Nat) {i : Nat} (hi : i < m.ac.length) : tmr (s,m.fall c k) i = if i < k ∧ m.pr c.1 i = true ∧ 0 < tmr c i then tmr c i - 1 else tmr c i := by
 show (m.fall c k).getD i 0 = _
 rw [List.getD_eq_getElem?_getD,Md.fall_get c k hi]; rfl
theorem Md.then_at (c : Ck) (s : Int) (i k : Nat) {j : Nat} (hj : j < m.ac.length) : tmr (s,m.then_ c i k) j = if j < k ∧ j ≠ i ∧ m.pr c.1 j = true ∧ m.pr (m.nx c.1 i) j = true then tmr c j else (m.at j).df := by
 show (m.then_ c i k).getD j 0 = _
 rw [List.getD_eq_getElem?_getD,Md.then_get c i k hj]; rfl
theorem Md.Is.tick (hm : m.Ok) {c d : Ck} (h : m.Is c) (ht : m.tick c = some d) : m.Is d := by
 unfold Md.tick at ht
 split at ht
 · cases ht
 · cases ht
   refine ⟨h.s,Md.fall_len _ _,fun i hi => ?_⟩
   rw [Md.fall_at c _ _ hi]
   have := h.t i hi
   split <;> omega
theorem Md.Is.act (hm : m.Ok) {c d : Ck} {i : Nat} (h : m.Is c) (ht : m.act c i = some d) : m.Is d := by
 unfold Md.act at ht
 split at ht
 · rename_i hp
   cases ht
   have hp2 : m.pr c.1 i = true := by unfold Md.may at hp; exact (Bool.and_eq_true_iff.1 hp).1
   have hp3 : 0 ≤ m.nx c.1 i := of_decide_eq_true hp2
   refine ⟨?_,Md.then_len _ _ _,fun j hj => ?_⟩
   · rcases Md.nx_rg hm c.1 i with g | g
     · omega
     · exact g
   · rw [Md.then_at c _ _ _ hj]
     have := h.t j hj
     have := hm.df hj
     split <;> omega
 · cases ht
theorem Md.Is.eff (hm : m.Ok) {c d : Ck} {e : Int} (h : m.Is c) (ht : m.eff e c = some d) : m.Is d := by
 unfold Md.eff at ht
 split at ht
 · exact h.tick hm ht
 · exact h.act hm ht
theorem Md.dfs_at {i : Nat} (hi : i < m.ac.length) (s : Int) : tmr (s,m.dfs) i = (m.at i).df := by
 simp [tmr,Md.dfs,List.getD_eq_getElem?_getD,List.getElem?_map,List.getElem?_eq_getElem hi,Md.at]
theorem Md.Is.start (hm : m.Ok) (hn : 0 < m.a.n) : m.Is m.start :=
 ⟨⟨Int.le_refl _,hn⟩,by simp [Md.start,Md.dfs],fun i hi => by
  have := hm.df hi
  unfold Md.start
  rw [Md.dfs_at hi]; omega⟩
def pad32 (t : List Int) : List Int := t ++ List.replicate (32 - t.length) 0
theorem pad32_len {t : List Int} (h : t.length ≤ 32) : (pad32 t).length = 32 := by simp [pad32]; omega
theorem pad32_get {t : List Int} {i : Nat} (h : i < t.length) : (pad32 t)[i]? = t[i]? := by unfold pad32; rw [List.getElem?_append_left h]
theorem pad32_set {t : List Int} {i : Nat} (h : i < t.length) (v : Int) : (pad32 t).set i v = pad32 (t.set i v) := by unfold pad32; rw [List.set_append_left _ _ h,List.length_set]
theorem pad32_inj {t u : List Int} (hl : t.length = u.length) (h : pad32 t = pad32 u) : t = u := List.append_inj_left h hl
def ckT (t : List Int) : List Value := (pad32 t).map (.int .i8)
def ckC (c : Ck) : List Value := .int .i64 c.1 :: ckT c.2
theorem ckT_len {t : List Int} (h : t.length ≤ 32) : (ckT t).length = 32 := by simp [ckT,pad32_len h]
theorem ckC_len {c : Ck} (h : c.2.length ≤ 32) : (ckC c).length = 33 := by simp [ckC,ckT_len h]
theorem ckT_get {t : List Int} {i : Nat} (h : i < t.length) : (ckT t)[i]? = some (.int .i8 (t.getD i 0)) := by
 unfold ckT
 rw [List.getElem?_map,pad32_get h,List.getD_eq_getElem?_getD,List.getElem?_eq_getElem h]; rfl
theorem ckC_get {c : Ck} {i : Nat} (h : i < c.2.length) : (ckC c)[1 + i]? = some (.int .i8 (tmr c i)) := by
 unfold ckC
 rw [Nat.add_comm,List.getElem?_cons_succ,ckT_get h]; rfl
theorem ckT_set {t : List Int} {i : Nat} (h : i < t.length) (v : Int) : (ckT t).set i (.int .i8 v) = ckT (t.set i v) := by
 unfold ckT
 rw [← pad32_set h,List.map_set]
theorem ckC_set {c : Ck} {i : Nat} (h : i < c.2.length) (v : Int) : (ckC c).set (1 + i) (.int .i8 v) = ckC (c.1,c.2.set i v) := by
 unfold ckC
 rw [Nat.add_comm,List.set_cons_succ,ckT_set h]
theorem ckC_cell (c : Ck) : ∀ v ∈ ckC c,v.oneCell' = true := by
 intro v hv
 simp only [ckC,ckT,List.mem_cons,List.mem_map] at hv
 rcases hv with rfl | ⟨x,_,rfl⟩ <;> rfl
theorem ckC_inj {c d : Ck} (hl : c.2.length = d.2.length) (h : ckC c = ckC d) : c = d := by
 unfold ckC ckT at h
 have h1 := (List.cons.inj h).1
 have h2 := (List.cons.inj h).2
 have h3 : pad32 c.2 = pad32 d.2 := by
  have inj : ∀ x y : Int,Value.int .i8 x = .int .i8 y → x = y := fun x y h => by cases h; rfl
  exact List.map_inj_right inj |>.1 h2
 have h4 := pad32_inj hl h3
 cases c; cases d; cases h1; simp only at h4; rw [h4]
def ckZ : List Value := ckC (0,[])
end
end
def AcE : Reading Ac := fun _ x vs => vs = x.cells
theorem AcE.stays : Stays AcE := fun _ _ _ _ _ h => h
abbrev AcsAt := SlAt AcE 3
theorem EdsAt.cell3 {w : World} {b off : Nat} {l : List Ed} (h : EdsAt w (some ⟨b,off,none⟩) l) {k : Nat} {x : Ed} (hx : l[k]? = some x) : w.cell? ⟨b,off + k * 3,none⟩ = some (.int .i64 x.src) ∧ w.cell? ⟨b,off + k * 3 + 1,none⟩ = some (.int .i64 x.ev) ∧ w.cell? ⟨b,off + k * 3 + 2,none⟩ = some (.int .i64 x.dst) := by
 obtain ⟨b',off',x',e,_,hx',e0,e1,e2⟩ := EdE.cells3 h (List.getElem?_eq_some_iff.1 hx).1
 cases e
 rw [hx] at hx'; cases hx'
 exact ⟨e0,e1,e2⟩
theorem AcsAt.at {w : World} {A : Option Addr} {l : List Ac} (h : AcsAt w A l) {k : Nat} (hk : k < l.length) : ∃ b off x,A = some ⟨b,off,none⟩ ∧ b < w.heap.size ∧ l[k]? = some x ∧ w.cell? ⟨b,off + k * 3,none⟩ = some (.int .i64 x.ev) ∧ w.cell? ⟨b,off + k * 3 + 1,none⟩ = some (.int .i64 x.lo) ∧ w.cell? ⟨b,off + k * 3 + 2,none⟩ = some (.int .i64 x.up) := by
 obtain ⟨b,off,x,vs,hA,hb,hx,_,hv,hc⟩ := SlAt.at h hk
 unfold AcE at hv
 subst hv
 refine ⟨b,off,x,hA,hb,hx,?_,?_,?_⟩
 · have := hc 0 (.int .i64 x.ev) rfl; simpa using this
 · have := hc 1 (.int .i64 x.lo) rfl; simpa using this
 · have := hc 2 (.int .i64 x.up) rfl; simpa using this
theorem AcsAt.cell3 {w : World} {b off : Nat} {l : List Ac} (h : AcsAt w (some ⟨b,off,none⟩) l) {k : Nat} {x : Ac} (hx : l[k]? = some x) : w.cell? ⟨b,off + k * 3,none⟩ = some (.int .i64 x.ev) ∧ w.cell? ⟨b,off + k * 3 + 1,none⟩ = some (.int .i64 x.lo) ∧ w.cell? ⟨b,off + k * 3 + 2,none⟩ = some (.int .i64 x.up) := by
 obtain ⟨b',off',x',e,_,hx',e0,e1,e2⟩ := AcsAt.at h (List.getElem?_eq_some_iff.1 hx).1
 cases e
 rw [hx] at hx'; cases hx'
 exact ⟨e0,e1,e2⟩
structure MdP where
 p : AuP
 B : Option Addr
 d : Nat
def Md.cells (m : Md) (P : MdP) : List Value := [.slice P.p.A1 m.a.al.length P.p.c1,.int .i64 m.a.n,.slice P.p.A2 m.a.mr.length P.p.c2,.slice P.p.A3 m.a.ed.length P.p.c3,.slice P.B m.ac.length P.d,.int .i64 m.tk]
structure Md.At (w : World) (m : Md) (P : MdP) : Prop where
 a : Au.At w m.a P.p
 ac : AcsAt w P.B m.ac
theorem Md.At.below {w w' : World} {m : Md} {P : MdP} (h : Md.At w m P) (hb : Below w.heap.size w w') : Md.At w' m P := ⟨h.a.below hb,h.ac.below AcE.stays hb⟩
def dE (x y : Ed) : Int := if x.src = y.src then x.ev - y.ev else x.src - y.src
set_option maxHeartbeats 1000000 in
theorem stepD_c (x y : Ed) (w : World) (hx : (-1000000 ≤ x.src ∧ x.src ≤ 1000000) ∧ -1000000 ≤ x.ev ∧ x.ev ≤ 1000000) (hy : (-1000000 ≤ y.src ∧ y.src ≤ 1000000) ∧ -1000000 ≤ y.ev ∧ y.ev ≤ 1000000) :
 Calls Tryz.prog 97 #[.agg x.cells.toArray,.agg y.cells.toArray] w (Ret (.int .i64 (dE x y)) w) := by
 obtain ⟨x0,x1,x2⟩ := x
 obtain ⟨y0,y1,y2⟩ := y
 dsimp only at hx hy
 dsimp only [Ed.cells,dE]
 have w1 : IntKind.i64.wrap (x0 - y0) = x0 - y0 := IntWalk.i64_in _ (by omega)
 have w2 : IntKind.i64.wrap (x1 - y1) = x1 - y1 := IntWalk.i64_in _ (by omega)
 go_enter Tryz.func97,Tryz.ntmps97
 go_upto_region 1 with fail
 refine wp_world (fun W => Sep w.heap.size w [eBlk (w.heap.size + 1) 76 [.int .i64 y0,.int .i64 y1,.int .i64 y2],eBlk w.heap.size 76 [.int .i64 x0,.int .i64 x1,.int .i64 x2]] W) ?_ fun W S => ?_
 · exact ((Sep.here w).alloc' _ [_,_,_] rfl rfl).alloc' _ [_,_,_] rfl (by simp)
 have S0 := Lib.hid S
 clear S
 have a0 := qkC S0.out 0 rfl 0 rfl
 have a1 := qkC S0.out 0 rfl 1 rfl
 have b0 := qkC S0.out 1 rfl 0 rfl
 have b1 := qkC S0.out 1 rfl 1 rfl
 by_cases e : x0 = y0
 · have hb : (x0 != y0) = false := by simp [e]
   rw [if_pos e]
   go_wp2_with fail
   go_ret
   exact ⟨rfl,S0.out.below⟩
 · have hb : (x0 != y0) = true := by simp [e]
   rw [if_neg e]
   go_wp2_with fail
   go_ret
   exact ⟨rfl,S0.out.below⟩
def FindsD (l : List Ed) (D : Ed → Int) (w : World) (e : Ending) (w' : World) : Prop := ∃ (p : Nat) (r : Bool),e = .returned (.tuple #[.int .i64 (p : Int),.bool r]) ∧ p ≤ l.length ∧ Hid ((∀ t y,t < p → l[t]? = some y → D y < 0) ∧ (∀ t y,p ≤ t → l[t]? = some y → 0 ≤ D y)) ∧ Hid ((r = true ∧ ∃ x,l[p]? = some x ∧ D x = 0) ∨ (r = false ∧ ∀ x,l[p]? = some x → D x ≠ 0)) ∧ Below w.heap.size w w'
set_option maxHeartbeats 4000000 in
theorem bsd_c (A : Option Addr) (c : Nat) (l : List Ed) (y : Ed) (F : FuncId) (D : Ed → Int) (w : World) (h : EdsAt w A l) (hl : l.length ≤ 1000000) (hs : ∀ (i j : Nat) x z,i ≤ j → l[i]? = some x → l[j]? = some z → D z < 0 → D x < 0)
 (hF : ∀ x V,x ∈ l → Calls Tryz.prog F #[.agg x.cells.toArray,.agg y.cells.toArray] V (Ret (.int .i64 (D x)) V)) (ec : ∀ args w,(callFunc F args).run Tryz.prog w = .ok (.enter F args) w) :
 Calls Tryz.prog 96 #[.slice A l.length c,.agg y.cells.toArray,.func (.func F) #[] #[]] w (FindsD l D w) := by
 have H := Lib.hid h
 have HF := Lib.hid hF
 have HS := Lib.hid hs
 clear h hF hs
 dsimp only [Ed.cells] at HF ⊢
 go_enter Tryz.func96,Tryz.ntmps96
 go_upto_region 1 with fail
 refine wp_world (fun W => Sep w.heap.size w [eBlk w.heap.size 76 [.int .i64 y.src,.int .i64 y.ev,.int .i64 y.dst]] W) ?_ fun W S => ?_
 · exact (Sep.here w).alloc' _ [_,_,_] rfl rfl
 have S0 := Lib.hid S
 clear S
 go_wp2_with fail
 go_loopw [9,10,11] (fun a b _ wr => ∃ lo hi : Nat,a = .int .i64 (lo : Int) ∧ b = .int .i64 (hi : Int) ∧ lo ≤ hi ∧ hi ≤ l.length ∧ Hid ((∀ t y,t < lo → l[t]? = some y → D y < 0) ∧ (∀ t y,hi ≤ t → l[t]? = some y → 0 ≤ D y)) ∧ Hid (Sep w.heap.size w [eBlk w.heap.size 76 [.int .i64 y.src,.int .i64 y.ev,.int .i64 y.dst]] wr)) (fun a b _ _ => (intOf b).toNat - (intOf a).toNat)
 case atStart => exact ⟨0,l.length,rfl,rfl,Nat.zero_le _,Nat.le_refl _,⟨fun t y ht => absurd ht (Nat.not_lt_zero _),fun t y h1 h2 => by have := (List.getElem?_eq_some_iff.1 h2).1; omega⟩,S0.out⟩
 case round =>
  clear S0
  obtain ⟨lo,hi,rfl,rfl,hlh,hin,HB,S1⟩ := hrel
  by_cases hlt : lo < hi
  · obtain ⟨md,hmd⟩ : ∃ md,md = (lo + hi) / 2 := ⟨_,rfl⟩
    have hm1 : ((lo : Int) + (hi : Int)) / 2 = (md : Int) := by omega
    have hm2 : lo ≤ md ∧ md < hi := by omega
    clear hmd
    obtain ⟨hm3,hm4⟩ := hm2
    have hm5 : md < l.length := by omega
    obtain ⟨b,off,x,hAe,hb,hx,_,_,_⟩ := EdE.cells3 (H.out.below EdE.stays S1.out.below) (k := md) (by omega)
    subst hAe
    have HX := Lib.hid hx
    have HXM := Lib.hid (List.mem_of_getElem? hx)
    clear hx
    go_upto_region 5 with fail
    have S1 := Lib.hid S1.out.drew
    refine wp_region_held_drew (S := (fun V => Sep w.heap.size w [eBlk w.heap.size 76 [.int .i64 y.src,.int .i64 y.ev,.int .i64 y.dst]] V)) (by kernel_rfl) ?_ (fun hHeld => ?_)
    · exact S1.out.pick [0] (by decide)
    generalize hwz : wr.drew = w1 at *
    clear hwz
    refine tkP 0 rfl hHeld ?_
    try simp only [sx]
    refine tkP 1 rfl hHeld ?_
    try simp only [sx]
    refine tkP 2 rfl hHeld ?_
    try simp only [sx]
    refine tkP 3 rfl hHeld ?_
    try simp only [sx]
    refine tkH 4 rfl (v := ?_) (by kernel_rfl) ?_ hHeld ?_
    rotate_left
    · intro V hSw
      obtain ⟨x0,x1,x2⟩ := EdsAt.cell3 (H.out.below EdE.stays (Sep.below (show Sep w.heap.size w _ V from hSw))) HX.out
      clear hSw
      first | (go_simp; done) | (go_simp; with_reducible rfl)
    try simp only [sx]
    refine tkH 5 rfl (v := ?_) (by kernel_rfl) ?_ hHeld ?_
    rotate_left
    · intro V hSw
      have z0 := qkC hSw 0 rfl 0 rfl
      have z1 := qkC hSw 0 rfl 1 rfl
      have z2 := qkC hSw 0 rfl 2 rfl
      clear hSw
      first | (go_simp; done) | (go_simp; with_reducible rfl)
    try simp only [sx]
    refine rdH 6 rfl fun K hK => ?_
    go_simp
    refine ((HF.out x w1 HXM.out)).mono ?_
    rintro e w2 ⟨rfl,hb⟩
    have S2 := Lib.hid (S1.out.next hb)
    clear hb
    refine hK.out _ _ ?_ (fun hHeld => ?_)
    · exact S2.out.pick [0] (by decide)
    clear hK K
    try simp only [sx]
    refine tkP 7 rfl hHeld ?_
    try simp only [sx]
    refine wpAnyH_done (by kernel_rfl) ?_ _
    have S9 := S2
    by_cases hyx : D x < 0
    · have hd : decide (D x < 0) = true := decide_eq_true hyx
      go_wp2
      go_roundw
      case rel =>
       refine ⟨md + 1,hi,by go_num,rfl,by omega,hin,⟨fun t z ht hz => ?_,HB.out.2⟩,S9.out⟩
       by_cases e : t = md
       · subst e; rw [HX.out] at hz; cases hz; exact hyx
       · exact HS.out t _ z x (by omega) hz HX.out hyx
      case measure => simp [intOf]; omega
    · have hd : decide (D x < 0) = false := decide_eq_false hyx
      go_wp2
      go_roundw
      case rel =>
       refine ⟨lo,md,rfl,by go_num,by omega,by omega,⟨HB.out.1,fun t z ht hz => ?_⟩,S9.out⟩
       by_cases e : t = md
       · subst e; rw [HX.out] at hz; cases hz; omega
       · exact Int.not_lt.1 fun g => hyx (HS.out _ t x z (by omega) HX.out hz g)
      case measure => simp [intOf]; omega
  · obtain rfl : lo = hi := by omega
    by_cases hlo : lo < l.length
    · obtain ⟨b,off,x,hAe,hb,hx,_,_,_⟩ := EdE.cells3 (H.out.below EdE.stays S1.out.below) hlo
      subst hAe
      have HR3 : Hid (((D x == 0) = true ∧ ∃ x,l[lo]? = some x ∧ D x = 0) ∨ ((D x == 0) = false ∧ ∀ x,l[lo]? = some x → D x ≠ 0)) := by
       by_cases e : D x = 0
       · exact .inl ⟨by simp [e],x,hx,e⟩
       · exact .inr ⟨by simp [e],fun y hy => by rw [hx] at hy; cases hy; exact e⟩
      have HX := Lib.hid hx
      have HXM := Lib.hid (List.mem_of_getElem? hx)
      clear hx
      have hlo2 : decide ((lo : Int) < (l.length : Int)) = true := by simp; omega
      go_upto_region 8 with fail
      have S1 := Lib.hid S1.out.drew
      refine wp_region_held_drew (S := (fun V => Sep w.heap.size w [eBlk w.heap.size 76 [.int .i64 y.src,.int .i64 y.ev,.int .i64 y.dst]] V)) (by kernel_rfl) ?_ (fun hHeld => ?_)
      · exact S1.out.pick [0] (by decide)
      generalize hwz : wr.drew = w1 at *
      clear hwz
      refine tkP 0 rfl hHeld ?_
      try simp only [sx]
      refine tkP 1 rfl hHeld ?_
      try simp only [sx]
      refine tkP 2 rfl hHeld ?_
      try simp only [sx]
      refine tkP 3 rfl hHeld ?_
      try simp only [sx]
      refine tkP 4 rfl hHeld ?_
      try simp only [sx]
      refine tkP 5 rfl hHeld ?_
      try simp only [sx]
      refine tkP 6 rfl hHeld ?_
      try simp only [sx]
      refine tkP 7 rfl hHeld ?_
      try simp only [sx]
      refine tkP 8 rfl hHeld ?_
      try simp only [sx]
      refine tkH 9 rfl (v := ?_) (by kernel_rfl) ?_ hHeld ?_
      rotate_left
      · intro V hSw
        obtain ⟨x0,x1,x2⟩ := EdsAt.cell3 (H.out.below EdE.stays (Sep.below (show Sep w.heap.size w _ V from hSw))) HX.out
        clear hSw
        first | (go_simp; done) | (go_simp; with_reducible rfl)
      try simp only [sx]
      refine tkH 10 rfl (v := ?_) (by kernel_rfl) ?_ hHeld ?_
      rotate_left
      · intro V hSw
        have z0 := qkC hSw 0 rfl 0 rfl
        have z1 := qkC hSw 0 rfl 1 rfl
        have z2 := qkC hSw 0 rfl 2 rfl
        clear hSw
        first | (go_simp; done) | (go_simp; with_reducible rfl)
      try simp only [sx]
      refine rdH 11 rfl fun K hK => ?_
      go_simp
      refine ((HF.out x w1 HXM.out)).mono ?_
      rintro e w2 ⟨rfl,hb⟩
      have S2 := Lib.hid (S1.out.next hb)
      clear hb
      refine hK.out _ _ ?_ (fun hHeld => ?_)
      · exact S2.out.pick [0] (by decide)
      clear hK K
      try simp only [sx]
      refine tkP 12 rfl hHeld ?_
      try simp only [sx]
      refine tkP 13 rfl hHeld ?_
      try simp only [sx]
      refine tkP 14 rfl hHeld ?_
      try simp only [sx]
      refine tkP 15 rfl hHeld ?_
      try simp only [sx]
      refine wpAnyH_done (by kernel_rfl) ?_ _
      have S9 := S2
      go_wp2_with fail
      refine bodyPost_ret (v := .tuple #[.int .i64 (lo : Int),.bool (D x == 0)]) (by simp [results,Tryz.results96,go_sem]) rfl ?_
      exact ⟨lo,_,rfl,hin,HB.out,HR3.out,S9.out.below⟩
    · have hlo2 : decide ((lo : Int) < (l.length : Int)) = false := by simp; omega
      go_upto_region 8 with fail
      have S1 := Lib.hid S1.out.drew
      refine wp_region_held_drew (S := (fun V => Sep w.heap.size w [eBlk w.heap.size 76 [.int .i64 y.src,.int .i64 y.ev,.int .i64 y.dst]] V)) (by kernel_rfl) ?_ (fun hHeld => ?_)
      · exact S1.out.pick [0] (by decide)
      generalize hwz : wr.drew = w1 at *
      clear hwz
      refine tkP 0 rfl hHeld ?_
      try simp only [sx]
      refine tkP 1 rfl hHeld ?_
      try simp only [sx]
      refine tkP 2 rfl hHeld ?_
      try simp only [sx]
      refine tkP 3 rfl hHeld ?_
      try simp only [sx]
      refine tkP 4 rfl hHeld ?_
      try simp only [sx]
      refine wpAnyH_take (i := 5) (v := undef) rfl (by kernel_rfl) (by kernel_rfl) (by kernel_rfl) (fun _ _ _ h => h) (Or.inr ⟨?_,rfl⟩) hHeld ?_
      · kernel_rfl
      try simp only [sx]
      refine wpAnyH_take (i := 6) (v := undef) rfl (by kernel_rfl) (by kernel_rfl) (by kernel_rfl) (fun _ _ _ h => h) (Or.inr ⟨?_,rfl⟩) hHeld ?_
      · kernel_rfl
      try simp only [sx]
      refine wpAnyH_take (i := 7) (v := undef) rfl (by kernel_rfl) (by kernel_rfl) (by kernel_rfl) (fun _ _ _ h => h) (Or.inr ⟨?_,rfl⟩) hHeld ?_
      · kernel_rfl
      try simp only [sx]
      refine wpAnyH_take (i := 8) (v := undef) rfl (by kernel_rfl) (by kernel_rfl) (by kernel_rfl) (fun _ _ _ h => h) (Or.inr ⟨?_,rfl⟩) hHeld ?_
      · kernel_rfl
      try simp only [sx]
      refine wpAnyH_take (i := 9) (v := undef) rfl (by kernel_rfl) (by kernel_rfl) (by kernel_rfl) (fun _ _ _ h => h) (Or.inr ⟨?_,rfl⟩) hHeld ?_
      · kernel_rfl
      try simp only [sx]
      refine wpAnyH_take (i := 10) (v := undef) rfl (by kernel_rfl) (by kernel_rfl) (by kernel_rfl) (fun _ _ _ h => h) (Or.inr ⟨?_,rfl⟩) hHeld ?_
      · kernel_rfl
      try simp only [sx]
      refine wpAnyH_take (i := 11) (v := undef) rfl (by kernel_rfl) (by kernel_rfl) (by kernel_rfl) (fun _ _ _ h => h) (Or.inr ⟨?_,rfl⟩) hHeld ?_
      · kernel_rfl
      try simp only [sx]
      refine wpAnyH_take (i := 12) (v := undef) rfl (by kernel_rfl) (by kernel_rfl) (by kernel_rfl) (fun _ _ _ h => h) (Or.inr ⟨?_,rfl⟩) hHeld ?_
      · kernel_rfl
      try simp only [sx]
      refine tkP 13 rfl hHeld ?_
      try simp only [sx]
      refine tkP 14 rfl hHeld ?_
      try simp only [sx]
      refine tkP 15 rfl hHeld ?_
      try simp only [sx]
      refine wpAnyH_done (by kernel_rfl) ?_ _
      have S9 := S1
      go_wp2_with fail
      refine bodyPost_ret (v := .tuple #[.int .i64 (lo : Int),.bool false]) (by simp [results,Tryz.results96,go_sem]) rfl ?_
      exact ⟨lo,false,rfl,hin,HB.out,.inr ⟨rfl,fun x hx => absurd (List.getElem?_eq_some_iff.1 hx).1 hlo⟩,S9.out.below⟩

theorem step44_v {a : Au} (hr : a.Right) {s e : Int} {l : List Ed} (hl : l = a.ed) {p : Nat} {r : Bool} (h1 : (∀ t y,t < p → l[t]? = some y → dE y ⟨s,e,0⟩ < 0) ∧ (∀ t y,p ≤ t → l[t]? = some y → 0 ≤ dE y ⟨s,e,0⟩))
 (h2 : (r = true ∧ ∃ x,l[p]? = some x ∧ dE x ⟨s,e,0⟩ = 0) ∨ (r = false ∧ ∀ x,l[p]? = some x → dE x ⟨s,e,0⟩ ≠ 0)) : (r = true ∧ ∃ x,a.ed[p]? = some x ∧ x.dst = nextV a.ed s e) ∨ (r = false ∧ nextV a.ed s e = -1) := by
 subst hl
 have z : ∀ x : Ed,dE x ⟨s,e,0⟩ = 0 ↔ x.src = s ∧ x.ev = e := fun x => by
  unfold dE
  simp only
  split
  · rename_i g; omega
  · rename_i g; omega
 rcases h2 with ⟨rfl,x,hx,hd⟩ | ⟨rfl,hno⟩
 · refine .inl ⟨rfl,x,hx,?_⟩
   obtain ⟨g1,g2⟩ := (z x).1 hd
   have := (edge_next hr (List.mem_of_getElem? hx)).1
   rw [← this,g1,g2]
 · refine .inr ⟨rfl,?_⟩
   rcases hr.next_cases s e with g | ⟨_,_,x,hx,x1,x2,x3⟩
   · exact g
   · exfalso
     obtain ⟨t,ht,rfl⟩ := List.mem_iff_getElem.1 hx
     have hg : a.ed[t]? = some a.ed[t] := List.getElem?_eq_getElem ht
     have hz := (z a.ed[t]).2 ⟨x1,x2⟩
     rcases Nat.lt_trichotomy t p with k | k | k
     · have := h1.1 t _ k hg; omega
     · subst k; exact hno _ hg hz
     · have hp2 : p < a.ed.length := by omega
       have hg2 : a.ed[p]? = some a.ed[p] := List.getElem?_eq_getElem hp2
       have h5 := h1.2 p _ (Nat.le_refl _) hg2
       have h6 := hno _ hg2
       have h7 := hr.lex p t _ _ k hg2 hg
       unfold dE at h5 h6 hz
       simp only at h5 h6 hz
       split at h5 <;> split at h6 <;> split at hz <;> omega
theorem dE_mono {a : Au} (hr : a.Right) (y : Ed) (i j : Nat) (x z : Ed) (hij : i ≤ j) (hx : a.ed[i]? = some x) (hz : a.ed[j]? = some z) (h : dE z y < 0) : dE x y < 0 := by
 rcases Nat.lt_or_eq_of_le hij with e | e
 · have := hr.lex i j x z e hx hz
   unfold dE at h ⊢
   split at h <;> split <;> omega
 · subst e; rw [hx] at hz; cases hz; exact h
theorem al_rg {a : Au} (hr : a.Right) {e : Int} (h : e ∈ a.al) : 0 ≤ e ∧ e < 32 := hr.al.rgU h
set_option maxHeartbeats 2000000 in
theorem step44_c (a : Au) (p : AuP) (s e : Int) (w : World) (hr : a.Right) (hA : Au.At w a p) (h1 : 0 ≤ s ∧ s < 100000) (h2 : -100000 ≤ e ∧ e < 100000) :
 Calls Tryz.prog 68 #[a.val p,.int .i64 s,.int .i64 e] w (Ret (.int .i64 (nextV a.ed s e)) w) := by
 have HR := Lib.hid hr
 have HA := Lib.hid hA
 have hn := hr.n1
 have hle := ed_len hr
 have HRG : Hid (∀ x,x ∈ a.ed → ((-1000000 ≤ x.src ∧ x.src ≤ 1000000) ∧ -1000000 ≤ x.ev ∧ x.ev ≤ 1000000)) := fun x hx => by
  have h := edge_next hr hx
  obtain ⟨i,hi,hix⟩ := List.mem_iff_getElem.1 hx
  have h3 := al_rg hr (hr.edge (by rw [List.getElem?_eq_getElem hi,hix])).2.2.2.2
  omega
 obtain ⟨al,n,mr,ed⟩ := a
 obtain ⟨A1,c1,A2,c2,A3,c3⟩ := p
 dsimp only [Au.val] at hn hle HRG ⊢
 clear hr hA
 go_enter Tryz.func68,Tryz.ntmps68
 go_upto_region 1 with fail
 refine wp_world (fun W => Sep w.heap.size w [eBlk w.heap.size 34 [.slice A1 al.length c1,.int .i64 n,.slice A2 mr.length c2,.slice A3 ed.length c3]] W) ?_ fun W S => ?_
 · exact (Sep.here w).alloc' _ [_,_,_,_] rfl rfl
 have S0 := Lib.hid S
 clear S
 have b3 := qkC S0.out 0 rfl 3 rfl
 have HC := Lib.hid (bsd_c A3 c3 ed ⟨s,e,0⟩ 97 (fun x => dE x ⟨s,e,0⟩) W (HA.out.ed.below EdE.stays S0.out.below) (by omega) (fun i j x z => dE_mono HR.out _ i j x z) (fun x V hx => stepD_c x _ V (HRG.out x hx) ⟨by simp only; omega,by simp only; omega⟩) (fun args w => by rfl))
 dsimp only [Ed.cells] at HC
 go_wp2_with fail
 refine HC.out.mono ?_
 rintro e2 w2 ⟨q,r,rfl,hp,HB,HRR,hb⟩
 have S2 := Lib.hid (S0.out.next hb)
 have HV := Lib.hid (step44_v HR.out rfl HB.out HRR.out)
 clear HC hb S0 HB HRR b3
 have b3 := qkC S2.out 0 rfl 3 rfl
 rcases HV.out with ⟨rfl,x,hx,hd⟩ | ⟨rfl,hd⟩
 · have hpl := (List.getElem?_eq_some_iff.1 hx).1
   dsimp only at hpl
   obtain ⟨b,off,y,hAe,hb0,hy,e0,e1,e2⟩ := EdE.cells3 (HA.out.ed.below EdE.stays S2.out.below) hpl
   dsimp only at hAe
   subst hAe
   rw [hx] at hy; cases hy
   have HD2 := Lib.hid hd
   clear hx hd
   go_wp2_with fail
   go_ret
   exact ⟨by rw [← HD2.out]; rfl,S2.out.below⟩
 · have HD2 := Lib.hid hd
   clear hd
   go_wp2_with fail
   go_ret
   exact ⟨by rw [HD2.out]; rfl,S2.out.below⟩
set_option maxHeartbeats 1000000 in
theorem initially_c (x : Ac) (w : World) : Calls Tryz.prog 67 #[.agg x.cells.toArray] w (Ret (.int .i64 x.df) w) := by
 obtain ⟨x0,x1,x2⟩ := x
 dsimp only [Ac.cells,Ac.df]
 go_enter Tryz.func67,Tryz.ntmps67
 go_upto_region 1 with fail
 refine wp_world (fun W => Sep w.heap.size w [eBlk w.heap.size 44 [.int .i64 x0,.int .i64 x1,.int .i64 x2]] W) ?_ fun W S => ?_
 · exact (Sep.here w).alloc' _ [_,_,_] rfl rfl
 have S0 := Lib.hid S
 clear S
 have a1 := qkC S0.out 0 rfl 1 rfl
 have a2 := qkC S0.out 0 rfl 2 rfl
 by_cases e : x2 < 0
 · have hb : decide (x2 < 0) = true := decide_eq_true e
   rw [if_pos e]
   go_wp2_with fail
   go_ret
   exact ⟨rfl,S0.out.below⟩
 · have hb : decide (x2 < 0) = false := decide_eq_false e
   rw [if_neg e]
   go_wp2_with fail
   go_ret
   exact ⟨rfl,S0.out.below⟩
def Ent.and (e f : Ent) : Ent where
 foot := e.foot ++ f.foot
 ok w := e.ok w ∧ f.ok w
 lt w h g hg := (List.mem_append.1 hg).elim (e.lt w h.1 g) (f.lt w h.2 g)
 turn w w' h hg := ⟨e.turn w w' h.1 fun g k => hg g (List.mem_append_left _ k),f.turn w w' h.2 fun g k => hg g (List.mem_append_right _ k)⟩
theorem Sep.join {n : Nat} {w0 w : World} {e f : Ent} {es : List Ent} (S : Sep n w0 (e :: f :: es) w) : Sep n w0 (e.and f :: es) w := by
 have ap := S.ap
 rw [List.pairwise_cons,List.pairwise_cons] at ap
 refine ⟨S.fro,fun x hx => ?_,fun x hx => ?_,List.pairwise_cons.2 ⟨fun x hx g hg => ?_,ap.2.2⟩⟩
 · rcases List.mem_cons.1 hx with rfl | hx
   · exact ⟨S.ok e (by simp),S.ok f (by simp)⟩
   · exact S.ok x (by simp [hx])
 · rcases List.mem_cons.1 hx with rfl | hx
   · exact fun g hg => (List.mem_append.1 hg).elim (S.ge e (by simp) g) (S.ge f (by simp) g)
   · exact S.ge x (by simp [hx])
 · rcases List.mem_append.1 hg with h | h
   · exact ap.1 x (by simp [hx]) g h
   · exact ap.2.1 x hx g h

structure PrV where
 x : Int
 y : Int
 A : Option Addr
 n : Nat
 c : Nat
def PrV.cells (p : PrV) : List Value := [.int .i64 p.x,.int .i64 p.y,.slice p.A p.n p.c]
def WdAt (fs : List Nat) (w : World) (r : PrV) (wd : List Int) : Prop := r.n = wd.length ∧ ((r.A = none ∧ wd = [] ∧ r.c = 0) ∨ ∃ g,r.A = some ⟨g,0,none⟩ ∧ g ∈ fs ∧ ∀ j x,wd[j]? = some x → w.cell? ⟨g,j,none⟩ = some (.int .i64 x))
def eWds (fs : List Nat) (raw : List PrV) (l : List Pw) : Ent where
 foot := fs
 ok w := raw.length = l.length ∧ (∀ g,g ∈ fs → g < w.heap.size) ∧ ∀ (i : Nat) (r : PrV) (p : Pw),raw[i]? = some r → l[i]? = some p → r.x = p.x ∧ r.y = p.y ∧ WdAt fs w r p.w
 lt w h := h.2.1
 turn w w' h hg := by
  refine ⟨h.1,fun g hk => ?_,fun i r p hr hp => ?_⟩
  · have h1 := hg g hk
    have h2 := h.2.1 g hk
    rw [Array.getElem?_eq_getElem h2] at h1
    exact (Array.getElem?_eq_some_iff.1 h1).1
  · obtain ⟨h1,h2,h3,h4⟩ := h.2.2 i r p hr hp
    refine ⟨h1,h2,h3,h4.imp id fun ⟨g,e,hm,hc⟩ => ⟨g,e,hm,fun j x hx => ?_⟩⟩
    exact (World.cell?_of_block (a := ⟨g,_,none⟩) (hg g hm)).trans (hc j x hx)
theorem WdAt.ints {fs : List Nat} {w : World} {r : PrV} {wd : List Int} (h : WdAt fs w r wd) (hfs : ∀ g,g ∈ fs → g < w.heap.size) : IntsAt w r.A wd := by
 intro hne
 rcases h.2 with ⟨_,h2,_⟩ | ⟨g,hA,hm,hc⟩
 · exact absurd h2 hne
 · refine ⟨g,0,hA,hfs g hm,fun i x hx => ⟨[.int .i64 x],rfl,rfl,fun j v hj => ?_⟩⟩
   cases j with
   | zero => simp at hj; subst hj; simpa using hc i x hx
   | succ j => simp at hj
theorem Sep.wdCells {n : Nat} {w0 w : World} {es : List Ent} {fs : List Nat} {raw : List PrV} {l : List Pw} (S : Sep n w0 es w) (i : Nat) (hi : es[i]? = some (eWds fs raw l)) {q : Nat} {p : Pw} {g : Nat} {x y : Int} {nn c : Nat} (hr : raw[q]? = some ⟨x,y,some ⟨g,0,none⟩,nn,c⟩) (hp : l[q]? = some p) : ∀ j u,(p.w.flatMap encI)[j]? = some u → w.cell? ⟨g,j,none⟩ = some u := by
 intro j u hj
 obtain ⟨_,_,_,h4⟩ := (S.get i hi).2.2 q _ p hr hp
 rcases h4 with ⟨h,_⟩ | ⟨g',hA,_,hc⟩
 · cases h
 · cases hA
   rw [flat_encI,List.getElem?_map,Option.map_eq_some_iff] at hj
   obtain ⟨z,hz,rfl⟩ := hj
   exact hc j z hz
theorem Sep.wdsPush {n : Nat} {w0 w : World} {es : List Ent} {fs : List Nat} {raw : List PrV} {l : List Pw} {wd : List Int} {A : Option Addr} {c : Nat} (S : Sep n w0 (eInts wd (.slice A wd.length c) :: eWds fs raw l :: es) w) (x y : Int) :
 Sep n w0 (eWds ((Value.slice A wd.length c).ownBlock.toList ++ fs) (raw ++ [⟨x,y,A,wd.length,c⟩]) (l ++ [⟨x,y,wd⟩]) :: es) w := by
 refine (S.join).as 0 rfl _ (fun h => ?_) (fun g hg => hg)
 obtain ⟨ho,hl,hz,hc⟩ := h
 refine ⟨by simp [hl],fun g hg => ?_,fun i r p hr hp => ?_⟩
 · rcases List.mem_append.1 hg with k | k
   · exact (Own.lt ho g (by simpa using k)).2
   · exact hz g k
 · rcases getElem?_snoc hr with hr | ⟨hi,rfl⟩
   · have hil := (List.getElem?_eq_some_iff.1 hr).1
     rw [List.getElem?_append_left (by omega)] at hp
     obtain ⟨h1,h2,h3,h4⟩ := hc i r p hr hp
     exact ⟨h1,h2,h3,h4.imp id fun ⟨g,e,hm,hk⟩ => ⟨g,e,List.mem_append_right _ hm,hk⟩⟩
   · rw [hi,hl,List.getElem?_append_right (Nat.le_refl _)] at hp
     simp at hp
     subst hp
     refine ⟨rfl,rfl,rfl,?_⟩
     have hI := OwnI.ints ho
     rcases ho.2 with ⟨h1,h2⟩ | ⟨g,cap,cur,h1,h2,h3⟩
     · simp only [Value.slice.injEq] at h1
       obtain ⟨rfl,_,rfl⟩ := h1
       exact .inl ⟨rfl,List.eq_nil_of_length_eq_zero h2,rfl⟩
     · simp only [Value.slice.injEq] at h1
       obtain ⟨rfl,_,rfl⟩ := h1
       refine .inr ⟨g,rfl,by simp [Value.ownBlock],fun j x hx => ?_⟩
       obtain ⟨z,hz1,hz2⟩ := IntsAt.more hI (List.getElem?_eq_some_iff.1 hx).1
       rw [hx] at hz1; cases hz1
       simpa using hz2
end Go.Proofs.YtimdepdbcdbikaaGreat
