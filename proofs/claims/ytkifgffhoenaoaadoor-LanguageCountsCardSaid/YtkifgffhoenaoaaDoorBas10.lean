/-
  alphabet.merge and alphabet.Union.
  open: the machine of an automaton.
  check: right automata and a kind that is one.
  slices.Reverse of numbers.
  Plain: a search breadth first finds the least words.
-/
import Derived.Test.YtkifgffhoenaoaaDoorBas09
import Derived.Deep.RegionHeld
import Derived.Deep.DeepCutAuto
import Derived.Deep.CutBlock
import Derived.Test.YtkifgffhoenaoaaDoorBas03
import Derived.Test.YtkifgffhoenaoaaDoorBas02
import Derived.Test.YtkifgffhoenaoaaDoorBas01
import Derived.Laws.OwnMore
import Derived.RegionTactic
import Derived.BigRegion
set_option linter.unusedSimpArgs false
set_option linter.unusedVariables false
namespace Go.Proofs.YtkifgffhoenaoaaDoor
open Go.RowKit
set_option maxRecDepth 100000
def mergeV (f : Bool → Bool → Bool) : List Int → List Int → List Int
 | [],[] => []
 | x :: a,[] => if f true false then x :: mergeV f a [] else mergeV f a []
 | [],y :: b => if f false true then y :: mergeV f [] b else mergeV f [] b
 | x :: a,y :: b =>
   if x < y then (if f true false then x :: mergeV f a (y :: b) else mergeV f a (y :: b))
   else if y < x then (if f false true then y :: mergeV f (x :: a) b else mergeV f (x :: a) b)
   else (if f true true then y :: mergeV f a b else mergeV f a b)
 termination_by a b => a.length + b.length
def inA (a b : List Int) : Bool := match a,b with
 | [],_ => false
 | _ :: _,[] => true
 | x :: _,y :: _ => decide (x ≤ y)
def hdV (a b : List Int) : Int := if inA b a then b.headD 0 else a.headD 0
def dropV (p : Bool) (a : List Int) : List Int := if p then a.tail else a
theorem mergeV_step (f : Bool → Bool → Bool) (a b : List Int) (h : 0 < a.length ∨ 0 < b.length) :
 mergeV f a b = (if f (inA a b) (inA b a) then [hdV a b] else []) ++ mergeV f (dropV (inA a b) a) (dropV (inA b a) b) := by
 cases a with
 | nil =>
   cases b with
   | nil => simp at h
   | cons y b => rw [mergeV]; cases hf : f false true <;> simp [inA,hdV,dropV,hf]
 | cons x a =>
   cases b with
   | nil => rw [mergeV]; cases hf : f true false <;> simp [inA,hdV,dropV,hf]
   | cons y b =>
     rw [mergeV]
     by_cases h1 : x < y
     · have h2 : ¬ y ≤ x := by omega
       have h3 : x ≤ y := by omega
       cases hf : f true false <;> simp [inA,hdV,dropV,h1,h2,h3,hf]
     · by_cases h4 : y < x
       · have h2 : y ≤ x := by omega
         have h3 : ¬ x ≤ y := by omega
         cases hf : f false true <;> simp [inA,hdV,dropV,h1,h2,h3,h4,hf]
       · have h2 : y ≤ x := by omega
         have h3 : x ≤ y := by omega
         cases hf : f true true <;> simp [inA,hdV,dropV,h1,h2,h3,h4,hf]
theorem inA_some {a b : List Int} (h : inA a b = true) : ∃ x r,a = x :: r := by
 cases a with
 | nil => simp [inA] at h
 | cons x r => exact ⟨x,r,rfl⟩
theorem inA_one {a b : List Int} (h : 0 < a.length ∨ 0 < b.length) : inA a b = true ∨ inA b a = true := by
 cases a with
 | nil => cases b with
   | nil => simp at h
   | cons y b => right; rfl
 | cons x a => cases b with
   | nil => left; rfl
   | cons y b => by_cases hxy : x ≤ y
                 · left; simp [inA,hxy]
                 · right; simp [inA]; omega
theorem mergeV_len (f : Bool → Bool → Bool) : ∀ (n : Nat) (a b : List Int),a.length + b.length ≤ n → (mergeV f a b).length ≤ n := by
 intro n
 induction n with
 | zero => intro a b h; obtain rfl : a = [] := List.length_eq_zero_iff.1 (by omega); obtain rfl : b = [] := List.length_eq_zero_iff.1 (by omega); simp [mergeV]
 | succ n ih =>
   intro a b h
   by_cases h0 : 0 < a.length ∨ 0 < b.length
   · rw [mergeV_step f a b h0,List.length_append]
     have h1 : (if f (inA a b) (inA b a) then [hdV a b] else ([] : List Int)).length ≤ 1 := by split <;> simp
     have h2 : (dropV (inA a b) a).length + (dropV (inA b a) b).length ≤ n := by
      rcases inA_one h0 with h2 | h2
      · obtain ⟨x,r,rfl⟩ := inA_some h2
        rw [h2]
        have : (dropV (inA b (x :: r)) b).length ≤ b.length := by unfold dropV; split <;> simp
        simp only [dropV,if_true,List.tail_cons,List.length_cons] at *
        omega
      · obtain ⟨x,r,rfl⟩ := inA_some h2
        rw [h2]
        have : (dropV (inA a (x :: r)) a).length ≤ a.length := by unfold dropV; split <;> simp
        simp only [dropV,if_true,List.tail_cons,List.length_cons] at *
        omega
     have := ih _ _ h2
     omega
   · obtain rfl : a = [] := List.length_eq_zero_iff.1 (by omega)
     obtain rfl : b = [] := List.length_eq_zero_iff.1 (by omega)
     simp [mergeV]
theorem IntsAt.tail {w : World} {g off : Nat} {x : Int} {l : List Int} {cap : Nat} (h : IntsAt w (some ⟨g,off,none⟩) (x :: l)) (hc : (x :: l).length ≤ cap) : ∃ A,(if cap = 1 then some (⟨g,off,none⟩ : Addr) else some ⟨g,off + 1,none⟩) = some A ∧ IntsAt w (some A) l ∧ l.length ≤ cap - 1 := by
 simp only [List.length_cons] at hc
 by_cases h1 : cap = 1
 · subst h1
   obtain rfl : l = [] := List.length_eq_zero_iff.1 (by omega)
   exact ⟨⟨g,off,none⟩,by simp,SlAt.nil,by simp⟩
 · refine ⟨⟨g,off + 1,none⟩,by simp [h1],?_,by omega⟩
   intro hne
   obtain ⟨b,o,e,hb,hr⟩ := h (by simp)
   cases e
   refine ⟨_,_,rfl,hb,fun i y hy => ?_⟩
   obtain ⟨vs,h1,h2,h3⟩ := hr (i + 1) y (by simpa using hy)
   refine ⟨vs,h1,h2,fun j v hj => ?_⟩
   have := h3 j v hj
   rw [show off + 1 + i * 1 + j = off + (i + 1) * 1 + j by omega]
   exact this

theorem union1_c (a b : Bool) (w : World) : Calls Tryd.prog 83 #[.bool a,.bool b] w (Ret (.bool (a || b)) w) := by
 cases a <;> cases b
 all_goals
  go_enter Tryd.func83,Tryd.ntmps83
  go_wp2
  go_ret
  exact ⟨rfl,Below.refl _ _⟩
def GivesMg (l : List Int) (w : World) (e : Ending) (w' : World) : Prop := ∃ A c,e = .returned (.slice A l.length c) ∧ Hid (OwnI w.heap.size l (.slice A l.length c) w') ∧ Below w.heap.size w w'
set_option maxHeartbeats 4000000 in
theorem merge_c (A B : Option Addr) (cA cB : Nat) (a b : List Int) (g : Nat) (f : Bool → Bool → Bool) (eg : ∀ args w,(callFunc g args).run Tryd.prog w = .ok (.enter g args) w) (w : World) (hf : ∀ (V : World) (p q : Bool),Calls Tryd.prog g #[.bool p,.bool q] V (Ret (.bool (f p q)) V))
 (hA : IntsAt w A a) (hB : IntsAt w B b) (ha : a.length ≤ cA) (hb : b.length ≤ cB) (la : a.length + b.length ≤ 100000) :
 Calls Tryd.prog 82 #[.slice A a.length cA,.slice B b.length cB,.func (.func g) #[] #[]] w (GivesMg (mergeV f a b) w) := by
 have HA := Lib.hid hA
 have HB := Lib.hid hB
 have HF := Lib.hid hf
 have ML := Lib.hid (mergeV_len f _ a b (Nat.le_refl _))
 clear hA hB hf
 go_enter Tryd.func82,Tryd.ntmps82
 go_wp2_with fail
 go_loopw [0,1,7] (fun v0 v1 v7 wr => ∃ (A' B' : Option Addr) (na nb cA' cB' : Nat) (a' b' acc : List Int),v0 = .slice A' na cA' ∧ v1 = .slice B' nb cB' ∧ na = a'.length ∧ nb = b'.length ∧ na ≤ cA' ∧ nb ≤ cB' ∧ na ≤ a.length ∧ nb ≤ b.length ∧ Hid (IntsAt w A' a') ∧ Hid (IntsAt w B' b') ∧ Hid (OwnI w.heap.size acc v7 wr) ∧ Hid (Fro w.heap.size w wr) ∧ Hid (acc ++ mergeV f a' b' = mergeV f a b)) (fun v0 v1 _ _ => (match v0 with | .slice _ n _ => n | _ => 0) + (match v1 with | .slice _ n _ => n | _ => 0))
 case atStart => exact ⟨A,B,a.length,b.length,cA,cB,a,b,[],rfl,rfl,rfl,rfl,ha,hb,Nat.le_refl _,Nat.le_refl _,HA.out,HB.out,Own.nil _,Fro.here w,rfl⟩
 case round =>
  obtain ⟨A',B',na,nb,cA',cB',a',b',acc,rfl,rfl,hna,hnb,hca,hcb,hla,hlb,XA,XB,O,R,E⟩ := hrel
  have hacc : acc.length ≤ a.length + b.length := by have := congrArg List.length E.out; rw [List.length_append] at this; have := ML.out; omega
  by_cases h0 : na = 0 ∧ nb = 0
  · obtain ⟨rfl,rfl⟩ := h0
    have EN : Hid (acc = mergeV f a b) := by
     have := E.out
     rw [List.length_eq_zero_iff.1 hna.symm,List.length_eq_zero_iff.1 hnb.symm] at this
     simpa [Hid,mergeV] using this
    obtain ⟨AO,cO,rfl⟩ := O.out.form
    go_wp2_with fail
    refine bodyPost_ret (v := .slice AO acc.length cO) (by simp [results,Tryd.results82,go_sem]) rfl ?_
    exact ⟨AO,cO,by rw [← EN.out],by rw [← EN.out]; exact O.out,R.out.b⟩
  · have e1 : 0 < a'.length ∨ 0 < b'.length := by omega
    have ES : Hid (acc ++ ((if f (inA a' b') (inA b' a') then [hdV a' b'] else []) ++ mergeV f (dropV (inA a' b') a') (dropV (inA b' a') b')) = mergeV f a b) := by rw [Hid,← mergeV_step f a' b' e1]; exact E.out
    have XA2 := Lib.hid (XA.out.below IntE.stays R.out.b)
    have XB2 := Lib.hid (XB.out.below IntE.stays R.out.b)
    clear E e1
    have HNA := Lib.hid hna
    have HNB := Lib.hid hnb
    clear hna hnb
    cases a' with
    | nil =>
      cases b' with
      | nil => exact absurd ⟨HNA.out,HNB.out⟩ h0
      | cons y rb =>
        obtain rfl : na = 0 := HNA.out
        have pb : 0 < nb := by rw [HNB.out]; simp
        have zb : ¬ nb = 0 := by omega
        obtain ⟨gb,ob,y',hBe,_,hy,cb⟩ := IntsAt.at XB2.out (show 0 < (y :: rb).length by simp)
        obtain rfl : y = y' := by simpa using hy
        subst hBe
        rw [Nat.add_zero] at cb
        clear hy h0
        have i1 : inA [] (y :: rb) = false := rfl
        have i2 : inA (y :: rb) [] = true := rfl
        by_cases hB1 : cB' = 1
        all_goals
         go_wp2_with fail
         go_quiet (fail)
         go_wp2_with fail
         go_quiet (fail)
         go_wp2_with fail
         go_quiet (fail)
         go_wp2_with fail
         all_goals
          refine (HF.out _ false true).mono ?_
          rintro e w3 ⟨rfl,hb3⟩
          have R4 := Lib.hid (R.out.next ((Below.refl wr.heap.size wr).draws _ |>.trans hb3))
          have O4 : Hid (OwnI w.heap.size acc u7 w3) := Own.below O.out ((Below.refl wr.heap.size wr).draws _ |>.trans hb3) (Nat.le_refl _)
          clear hb3
          have ES2 : Hid (acc ++ ((if f false true = true then [y] else []) ++ mergeV f [] rb) = mergeV f a b) := by
           have h2 := ES.out
           unfold hdV at h2
           rw [i1,i2] at h2
           exact h2
          obtain ⟨TB,hTB,YB,hcb2⟩ := XB.out.tail (cap := cB') (by rw [← HNB.out]; exact hcb)
          have lnb : rb.length + 1 = nb := HNB.out.symm
          first | rw [if_pos hB1] at hTB | rw [if_neg hB1] at hTB
          cases hTB
          generalize f false true = k at *
          cases k
          · go_wp2_with fail
            go_roundw
            case rel => exact ⟨_,_,_,nb - 1,_,_,[],rb,acc,rfl,rfl,HNA.out,by omega,by omega,by omega,by omega,by omega,XA.out,YB,O4.out,R4.out,by have := ES2; simpa [Hid] using this⟩
            case measure => simp; omega
          · go_wp2_with (at_builtin; refine wpList_push rfl _ _ 32 rfl (O4.out.alloc _) Tryd.underlying32 _ 8 intInfo rfl (by decide) rfl y _ rfl rfl (one_cell _ _ [_] _ rfl) (encI_one _) (by omega) (by decide) (R4.out.alloc _).z ?_)
            intro A2 c2 w5 ho hg hat5
            have R5 := Lib.hid ((R4.out.alloc _).push (O4.out.alloc _) hg)
            have O5 := Lib.hid ho
            clear ho hg hat5
            go_wp2_with fail
            go_roundw
            case rel => exact ⟨_,_,_,nb - 1,_,_,[],rb,acc ++ [y],rfl,rfl,HNA.out,by omega,by omega,by omega,by omega,by omega,XA.out,YB,O5.out,R5.out,by have := ES2; simpa [Hid] using this⟩
            case measure => simp; omega
    | cons x ra =>
      have pa : 0 < na := by rw [HNA.out]; simp
      have za : ¬ na = 0 := by omega
      obtain ⟨ga,oa,x',hAe,_,hx,ca⟩ := IntsAt.at XA2.out (show 0 < (x :: ra).length by simp)
      obtain rfl : x = x' := by simpa using hx
      subst hAe
      rw [Nat.add_zero] at ca
      clear hx h0
      cases b' with
      | nil =>
        obtain rfl : nb = 0 := HNB.out
        have i1 : inA (x :: ra) [] = true := rfl
        have i2 : inA [] (x :: ra) = false := rfl
        by_cases hA1 : cA' = 1
        all_goals
         go_wp2_with fail
         go_quiet (fail)
         go_wp2_with fail
         go_quiet (fail)
         go_wp2_with fail
         go_quiet (fail)
         go_wp2_with fail
         all_goals
          refine (HF.out _ true false).mono ?_
          rintro e w3 ⟨rfl,hb3⟩
          have R4 := Lib.hid (R.out.next ((Below.refl wr.heap.size wr).draws _ |>.trans hb3))
          have O4 : Hid (OwnI w.heap.size acc u7 w3) := Own.below O.out ((Below.refl wr.heap.size wr).draws _ |>.trans hb3) (Nat.le_refl _)
          clear hb3
          have ES2 : Hid (acc ++ ((if f true false = true then [x] else []) ++ mergeV f ra []) = mergeV f a b) := by
           have h2 := ES.out
           unfold hdV at h2
           rw [i1,i2] at h2
           exact h2
          obtain ⟨TA,hTA,YA,hca2⟩ := XA.out.tail (cap := cA') (by rw [← HNA.out]; exact hca)
          have lna : ra.length + 1 = na := HNA.out.symm
          first | rw [if_pos hA1] at hTA | rw [if_neg hA1] at hTA
          cases hTA
          generalize f true false = k at *
          cases k
          · go_wp2_with fail
            go_roundw
            case rel => exact ⟨_,_,na - 1,_,_,_,ra,[],acc,rfl,rfl,by omega,HNB.out,by omega,by omega,by omega,by omega,YA,XB.out,O4.out,R4.out,by have := ES2; simpa [Hid] using this⟩
            case measure => simp; omega
          · go_wp2_with (at_builtin; refine wpList_push rfl _ _ 32 rfl (O4.out.alloc _) Tryd.underlying32 _ 8 intInfo rfl (by decide) rfl x _ rfl rfl (one_cell _ _ [_] _ rfl) (encI_one _) (by omega) (by decide) (R4.out.alloc _).z ?_)
            intro A2 c2 w5 ho hg hat5
            have R5 := Lib.hid ((R4.out.alloc _).push (O4.out.alloc _) hg)
            have O5 := Lib.hid ho
            clear ho hg hat5
            go_wp2_with fail
            go_roundw
            case rel => exact ⟨_,_,na - 1,_,_,_,ra,[],acc ++ [x],rfl,rfl,by omega,HNB.out,by omega,by omega,by omega,by omega,YA,XB.out,O5.out,R5.out,by have := ES2; simpa [Hid] using this⟩
            case measure => simp; omega
      | cons y rb =>
        have pb : 0 < nb := by rw [HNB.out]; simp
        have zb : ¬ nb = 0 := by omega
        obtain ⟨gb,ob,y',hBe,_,hy,cb⟩ := IntsAt.at XB2.out (show 0 < (y :: rb).length by simp)
        obtain rfl : y = y' := by simpa using hy
        subst hBe
        rw [Nat.add_zero] at cb
        clear hy
        by_cases hxy : x < y
        · skip
          have i1 : inA (x :: ra) (y :: rb) = true := by show decide (x ≤ y) = true; simp; omega
          have i2 : inA (y :: rb) (x :: ra) = false := by show decide (y ≤ x) = false; simp; omega
          have q1 : decide (x ≤ y) = true := i1
          have q2 : decide (y ≤ x) = false := i2
          by_cases hA1 : cA' = 1
          all_goals
           go_wp2_with fail
           go_quiet (fail)
           go_wp2_with fail
           go_quiet (fail)
           go_wp2_with fail
           go_quiet (fail)
           go_wp2_with fail
           all_goals
            refine (HF.out _ true false).mono ?_
            rintro e w3 ⟨rfl,hb3⟩
            have R4 := Lib.hid (R.out.next ((Below.refl wr.heap.size wr).draws _ |>.trans hb3))
            have O4 : Hid (OwnI w.heap.size acc u7 w3) := Own.below O.out ((Below.refl wr.heap.size wr).draws _ |>.trans hb3) (Nat.le_refl _)
            clear hb3
            have ES2 : Hid (acc ++ ((if f true false = true then [x] else []) ++ mergeV f ra (y :: rb)) = mergeV f a b) := by
             have h2 := ES.out
             unfold hdV at h2
             rw [i1,i2] at h2
             exact h2
            obtain ⟨TA,hTA,YA,hca2⟩ := XA.out.tail (cap := cA') (by rw [← HNA.out]; exact hca)
            have lna : ra.length + 1 = na := HNA.out.symm
            first | rw [if_pos hA1] at hTA | rw [if_neg hA1] at hTA
            cases hTA
            generalize f true false = k at *
            cases k
            · go_wp2_with fail
              go_roundw
              case rel => exact ⟨_,_,na - 1,nb,_,_,ra,(y :: rb),acc,rfl,rfl,by omega,HNB.out,by omega,by omega,by omega,by omega,YA,XB.out,O4.out,R4.out,by have := ES2; simpa [Hid] using this⟩
              case measure => simp; omega
            · go_wp2_with (at_builtin; refine wpList_push rfl _ _ 32 rfl (O4.out.alloc _) Tryd.underlying32 _ 8 intInfo rfl (by decide) rfl x _ rfl rfl (one_cell _ _ [_] _ rfl) (encI_one _) (by omega) (by decide) (R4.out.alloc _).z ?_)
              intro A2 c2 w5 ho hg hat5
              have R5 := Lib.hid ((R4.out.alloc _).push (O4.out.alloc _) hg)
              have O5 := Lib.hid ho
              clear ho hg hat5
              go_wp2_with fail
              go_roundw
              case rel => exact ⟨_,_,na - 1,nb,_,_,ra,(y :: rb),acc ++ [x],rfl,rfl,by omega,HNB.out,by omega,by omega,by omega,by omega,YA,XB.out,O5.out,R5.out,by have := ES2; simpa [Hid] using this⟩
              case measure => simp; omega
        · by_cases hyx : y < x
          · skip
            have i1 : inA (x :: ra) (y :: rb) = false := by show decide (x ≤ y) = false; simp; omega
            have i2 : inA (y :: rb) (x :: ra) = true := by show decide (y ≤ x) = true; simp; omega
            have q1 : decide (x ≤ y) = false := i1
            have q2 : decide (y ≤ x) = true := i2
            by_cases hB1 : cB' = 1
            all_goals
             go_wp2_with fail
             go_quiet (fail)
             go_wp2_with fail
             go_quiet (fail)
             go_wp2_with fail
             go_quiet (fail)
             go_wp2_with fail
             all_goals
              refine (HF.out _ false true).mono ?_
              rintro e w3 ⟨rfl,hb3⟩
              have R4 := Lib.hid (R.out.next ((Below.refl wr.heap.size wr).draws _ |>.trans hb3))
              have O4 : Hid (OwnI w.heap.size acc u7 w3) := Own.below O.out ((Below.refl wr.heap.size wr).draws _ |>.trans hb3) (Nat.le_refl _)
              clear hb3
              have ES2 : Hid (acc ++ ((if f false true = true then [y] else []) ++ mergeV f (x :: ra) rb) = mergeV f a b) := by
               have h2 := ES.out
               unfold hdV at h2
               rw [i1,i2] at h2
               exact h2
              obtain ⟨TB,hTB,YB,hcb2⟩ := XB.out.tail (cap := cB') (by rw [← HNB.out]; exact hcb)
              have lnb : rb.length + 1 = nb := HNB.out.symm
              first | rw [if_pos hB1] at hTB | rw [if_neg hB1] at hTB
              cases hTB
              generalize f false true = k at *
              cases k
              · go_wp2_with fail
                go_roundw
                case rel => exact ⟨_,_,na,nb - 1,_,_,(x :: ra),rb,acc,rfl,rfl,HNA.out,by omega,by omega,by omega,by omega,by omega,XA.out,YB,O4.out,R4.out,by have := ES2; simpa [Hid] using this⟩
                case measure => simp; omega
              · go_wp2_with (at_builtin; refine wpList_push rfl _ _ 32 rfl (O4.out.alloc _) Tryd.underlying32 _ 8 intInfo rfl (by decide) rfl y _ rfl rfl (one_cell _ _ [_] _ rfl) (encI_one _) (by omega) (by decide) (R4.out.alloc _).z ?_)
                intro A2 c2 w5 ho hg hat5
                have R5 := Lib.hid ((R4.out.alloc _).push (O4.out.alloc _) hg)
                have O5 := Lib.hid ho
                clear ho hg hat5
                go_wp2_with fail
                go_roundw
                case rel => exact ⟨_,_,na,nb - 1,_,_,(x :: ra),rb,acc ++ [y],rfl,rfl,HNA.out,by omega,by omega,by omega,by omega,by omega,XA.out,YB,O5.out,R5.out,by have := ES2; simpa [Hid] using this⟩
                case measure => simp; omega
          · skip
            have i1 : inA (x :: ra) (y :: rb) = true := by show decide (x ≤ y) = true; simp; omega
            have i2 : inA (y :: rb) (x :: ra) = true := by show decide (y ≤ x) = true; simp; omega
            have q1 : decide (x ≤ y) = true := i1
            have q2 : decide (y ≤ x) = true := i2
            by_cases hA1 : cA' = 1
            all_goals by_cases hB1 : cB' = 1
            all_goals skip
            all_goals
             go_wp2_with fail
             go_quiet (fail)
             go_wp2_with fail
             go_quiet (fail)
             go_wp2_with fail
             go_quiet (fail)
             go_wp2_with fail
             all_goals go_quiet (fail)
             all_goals go_wp2_with fail
             all_goals
              refine (HF.out _ true true).mono ?_
              rintro e w3 ⟨rfl,hb3⟩
              have R4 := Lib.hid (R.out.next ((Below.refl wr.heap.size wr).draws _ |>.trans hb3))
              have O4 : Hid (OwnI w.heap.size acc u7 w3) := Own.below O.out ((Below.refl wr.heap.size wr).draws _ |>.trans hb3) (Nat.le_refl _)
              clear hb3
              have ES2 : Hid (acc ++ ((if f true true = true then [y] else []) ++ mergeV f ra rb) = mergeV f a b) := by
               have h2 := ES.out
               unfold hdV at h2
               rw [i1,i2] at h2
               exact h2
              obtain ⟨TA,hTA,YA,hca2⟩ := XA.out.tail (cap := cA') (by rw [← HNA.out]; exact hca)
              have lna : ra.length + 1 = na := HNA.out.symm
              first | rw [if_pos hA1] at hTA | rw [if_neg hA1] at hTA
              cases hTA
              obtain ⟨TB,hTB,YB,hcb2⟩ := XB.out.tail (cap := cB') (by rw [← HNB.out]; exact hcb)
              have lnb : rb.length + 1 = nb := HNB.out.symm
              first | rw [if_pos hB1] at hTB | rw [if_neg hB1] at hTB
              cases hTB
              generalize f true true = k at *
              cases k
              · go_wp2_with fail
                go_roundw
                case rel => exact ⟨_,_,na - 1,nb - 1,_,_,ra,rb,acc,rfl,rfl,by omega,by omega,by omega,by omega,by omega,by omega,YA,YB,O4.out,R4.out,by have := ES2; simpa [Hid] using this⟩
                case measure => simp; omega
              · go_wp2_with (at_builtin; refine wpList_push rfl _ _ 32 rfl (O4.out.alloc _) Tryd.underlying32 _ 8 intInfo rfl (by decide) rfl y _ rfl rfl (one_cell _ _ [_] _ rfl) (encI_one _) (by omega) (by decide) (R4.out.alloc _).z ?_)
                intro A2 c2 w5 ho hg hat5
                have R5 := Lib.hid ((R4.out.alloc _).push (O4.out.alloc _) hg)
                have O5 := Lib.hid ho
                clear ho hg hat5
                go_wp2_with fail
                go_roundw
                case rel => exact ⟨_,_,na - 1,nb - 1,_,_,ra,rb,acc ++ [y],rfl,rfl,by omega,by omega,by omega,by omega,by omega,by omega,YA,YB,O5.out,R5.out,by have := ES2; simpa [Hid] using this⟩
                case measure => simp; omega
section

def GivesMach (a : Au) (w : World) (e : Ending) (w' : World) : Prop := ∃ b m1 m2,e = .returned (.pointer (some ⟨b,0,none⟩)) ∧ (w.heap.size ≤ b ∧ w.heap.size ≤ m1 ∧ w.heap.size ≤ m2) ∧ Hid (Mach3 w' b m1 m2 a) ∧ Below w.heap.size w w'
structure MachUp (W w : World) (B b m1 m2 : Nat) (st : Int) (ed : List Ed) (mr : List Int) : Prop where
 blk : BlkAt w b 104 [.map (some m1),.map (some m2),.int .i64 st]
 f1 : MapG key2 veI w m1 (stepOf ed)
 f2 : MapG keyI veB w m2 (setF mr)
 fro : Fro B W w
 ne : m1 ≠ m2 ∧ b ≠ m1 ∧ b ≠ m2 ∧ B ≤ m1 ∧ B ≤ m2 ∧ B ≤ b
section
variable {W w w' : World} {B b m1 m2 : Nat} {st : Int} {ed : List Ed} {mr : List Int}
theorem MachUp.alloc (h : MachUp W w B b m1 m2 st ed mr) (o : Obj) : MachUp W (w.alloc o) B b m1 m2 st ed mr := ⟨h.blk.alloc o,h.f1.alloc o,h.f2.alloc o,h.fro.alloc o,h.ne⟩
theorem MachUp.drew (h : MachUp W w B b m1 m2 st ed mr) : MachUp W w.drew B b m1 m2 st ed mr := ⟨h.blk,h.f1,h.f2,h.fro.drew,h.ne⟩
end
theorem MapG.far {κ β : Type} [DecidableEq κ] {key : κ → Value} {ve : β → Value} {w w' : World} {b b' : Nat} {f : κ → Option β} (h : MapG key ve w b f) (hg : w.grownBy w' (some b')) (hne : b ≠ b') : MapG key ve w' b f := by
 have hlt := h.lt
 obtain ⟨l,c,h1,h2⟩ := h
 exact ⟨l,c,(hg.block b hlt (fun e => hne (Option.some.inj e))).trans h1,h2⟩

set_option maxHeartbeats 2000000 in
theorem open_c (a : Au) (p : AuP) (w : World) (h : Au.At w a p) :
 Calls Tryd.prog 39 #[a.val p] w (GivesMach a w) := by
 obtain ⟨al,n,mr,ed⟩ := a
 obtain ⟨A1,c1,A2,c2,A3,c3⟩ := p
 try dsimp only [Au.val] at *
 have H := Lib.hid h
 have lmk := h.lmk
 have led := h.led
 simp only at lmk led
 clear h
 have hmm := @run_makeMap Tryd.prog
 have W0 : Hid (Fro (w.heap.size + 1) (w.alloc (.cells #[.slice A1 al.length c1,.int .i64 n,.slice A2 mr.length c2,.slice A3 ed.length c3] 35)) (w.alloc (.cells #[.slice A1 al.length c1,.int .i64 n,.slice A2 mr.length c2,.slice A3 ed.length c3] 35))) := Fro.refl (by simp)
 have B0 : Hid (Below w.heap.size w (w.alloc (.cells #[.slice A1 al.length c1,.int .i64 n,.slice A2 mr.length c2,.slice A3 ed.length c3] 35))) := Below.new _ _
 have D0 : Hid (HasAt w.heap.size [.slice A1 al.length c1,.int .i64 n,.slice A2 mr.length c2,.slice A3 ed.length c3] (w.alloc (.cells #[.slice A1 al.length c1,.int .i64 n,.slice A2 mr.length c2,.slice A3 ed.length c3] 35))) := HasAt.new w _ _ rfl
 have HS : Hid ((w.alloc (.cells #[.slice A1 al.length c1,.int .i64 n,.slice A2 mr.length c2,.slice A3 ed.length c3] 35)).heap.size = w.heap.size + 1) := by simp [Hid]
 go_enter Tryd.func39,Tryd.ntmps39
 go_upto_region 2 with fail
 generalize hW : w.alloc (.cells #[.slice A1 al.length c1,.int .i64 n,.slice A2 mr.length c2,.slice A3 ed.length c3] 35) = W at *
 clear hW
 have M0 : Hid (MachUp W (((W.alloc (.map #[] 0)).alloc (.map #[] 0)).alloc (.cells #[.map (some (w.heap.size + 1)),.map (some (w.heap.size + 1 + 1)),.int .i64 0] 104)) (w.heap.size + 1) (w.heap.size + 1 + 1 + 1) (w.heap.size + 1) (w.heap.size + 1 + 1) 0 [] []) := by
  have e1 : w.heap.size + 1 = W.heap.size := HS.out.symm
  have e2 : w.heap.size + 1 + 1 = (W.alloc (.map #[] 0)).heap.size := by simp [e1]
  have e3 : w.heap.size + 1 + 1 + 1 = ((W.alloc (.map #[] 0)).alloc (.map #[] 0)).heap.size := by simp [e1]
  refine ⟨?_,?_,?_,((W0.out.alloc _).alloc _).alloc _,by omega⟩
  · rw [e3]; exact BlkAt.new _ _ [_,_,_]
  · have := (MapG.made key2 veI W).alloc (.map #[] 0)
    rw [← e1] at this
    exact (this.alloc _).congr (fun x => rfl)
  · have := MapG.made keyI veB (W.alloc (.map #[] 0))
    rw [← e2] at this
    exact (this.alloc _).congr (fun x => by simp [setF])
 have DX : Hid (∀ V,Fro (w.heap.size + 1) W V → HasAt w.heap.size [.slice A1 al.length c1,.int .i64 n,.slice A2 mr.length c2,.slice A3 ed.length c3] V) := fun V hb => D0.out.fro hb (Nat.lt_succ_self _)
 have HX : Hid (∀ V,Fro (w.heap.size + 1) W V → Au.At V ⟨al,n,mr,ed⟩ ⟨A1,c1,A2,c2,A3,c3⟩) := fun V hb => H.out.below (B0.out.trans (hb.b.mono (by omega)))
 have FX : Hid (∀ V,Fro (w.heap.size + 1) W V → Below w.heap.size w V) := fun V hb => B0.out.trans (hb.b.mono (by omega))
 generalize hV : ((W.alloc (.map #[] 0)).alloc (.map #[] 0)).alloc (.cells #[.map (some (w.heap.size + 1)),.map (some (w.heap.size + 1 + 1)),.int .i64 0] 104) = V at *
 clear hV W0 B0 D0 H
 obtain ⟨m1,hm1⟩ : ∃ m1,m1 = w.heap.size + 1 := ⟨_,rfl⟩
 obtain ⟨m2,hm2⟩ : ∃ m2,m2 = w.heap.size + 1 + 1 := ⟨_,rfl⟩
 obtain ⟨b,hb⟩ : ∃ b,b = w.heap.size + 1 + 1 + 1 := ⟨_,rfl⟩
 rw [← hb,← hm2,← hm1] at M0 ⊢
 rw [← hm1] at DX HX FX
 have HB : Hid (w.heap.size < m1 ∧ w.heap.size ≤ b) := ⟨by omega,by omega⟩
 clear hb hm1 hm2
 obtain ⟨st,hst⟩ : ∃ st,st = Au.st ⟨al,n,mr,ed⟩ := ⟨_,rfl⟩
 have ST := Lib.hid hst
 clear hst
 have d1 := (DX.out V M0.out.fro).c 1 _ rfl
 go_upto_if 14 with fail
 go_cut [2] (fun v wx => v = .pointer none ∧ Hid (MachUp W wx m1 b m1 m2 st [] []))
 case first =>
  have k2 := M0.out.blk.cell 2
  have f2 := M0.out.blk.free 2
  by_cases hn : n = 0
  · have : st = -1 := by rw [ST.out]; exact if_pos hn
    subst hn
    subst this
    have M1 : Hid (MachUp W (V.setCell ⟨b,2,none⟩ (.int .i64 (-1))) m1 b m1 m2 (-1) [] []) := by
     have hg := grownBy_setCells (g := b) [Value.int .i64 (-1)] 2 V
     exact ⟨M0.out.blk.set_ 2 _,M0.out.f1.far hg (fun e => M0.out.ne.2.1 e.symm),M0.out.f2.far hg (fun e => M0.out.ne.2.2.1 e.symm),M0.out.fro.setCell M0.out.ne.2.2.2.2.2 _,M0.out.ne⟩
    go_wp2
    go_meet
    exact ⟨rfl,M1.out⟩
  · have : st = 0 := by rw [ST.out]; exact if_neg hn
    subst this
    have hn' : (n == 0) = false := by simpa using hn
    go_wp2
    go_meet
    exact ⟨rfl,M0.out⟩
 case rest =>
  obtain ⟨rfl,M⟩ := hcut
  clear M0 d1
  have d3 := (DX.out wc M.out.fro).c 3 _ rfl
  go_wp2_with fail
  clear d3
  go_loopw [21] (fun i wr => ∃ k : Nat,k ≤ ed.length ∧ i = .int .i64 k ∧ Hid (MachUp W wr m1 b m1 m2 st (ed.take k) [])) (fun i _ => ed.length - (intOf i).toNat)
  case atStart => exact ⟨0,by omega,rfl,M.out⟩
  case round =>
   clear M
   obtain ⟨k,hk,rfl,M⟩ := hrel
   by_cases hlt : k < ed.length
   · obtain ⟨bb,off,x,hA3,hb3,hx,e0,e1,e2⟩ := EdsAt.at (HX.out wr M.out.fro).ed hlt
     obtain ⟨src,ev,dst⟩ := x
     dsimp only at hA3
     subst hA3
     dsimp only at e0 e1 e2
     have HXE := Lib.hid hx
     clear hx
     have M1 : Hid (MachUp W (wr.alloc (.cells #[.int .i64 src,.int .i64 ev,.int .i64 dst] 87)) m1 b m1 m2 st (ed.take k) []) := M.out.alloc _
     have X1 : Hid (HasAt wr.heap.size [.int .i64 src,.int .i64 ev,.int .i64 dst] (wr.alloc (.cells #[.int .i64 src,.int .i64 ev,.int .i64 dst] 87))) := HasAt.new wr _ _ rfl
     go_upto_region 7 with fail
     generalize hV : wr.alloc (.cells #[.int .i64 src,.int .i64 ev,.int .i64 dst] 87) = V1 at *
     clear hV e0 e1 e2
     have k0 : V1.cell? ⟨b,0,none⟩ = some (.map (some m1)) := M1.out.blk.cell 0
     have x0 := X1.out.c 0 _ rfl
     have x1 := X1.out.c 1 _ rfl
     have x2 := X1.out.c 2 _ rfl
     go_still_tail 11,(by kernel_rfl)
     change wpList _ _ _ _ _ V1.drew
     go_wp2_with (at_mapUpdate; refine wpList_mapUpdate_g _ rfl _ _ _ 101 74 3 rfl _ key2 veI ok2 Tryd.underlying101 m1 (stepOf (ed.take k)) (src,ev) dst rfl M1.out.drew.f1 rfl rfl ?_; intro w1 hm1 hg1; have HM1 := Lib.hid hm1; clear hm1; have HG1 := Lib.hid hg1; clear hg1)
     have M2 : Hid (MachUp W w1 m1 b m1 m2 st (ed.take (k + 1)) []) := by
      have hgb : ∀ c : Nat,c ≠ m1 → some c ≠ some m1 := fun c h e => h (Option.some.inj e)
      refine ⟨M1.out.drew.blk.grown HG1.out (hgb _ M1.out.ne.2.1),HM1.out.congr (fun y => by rw [List.take_add_one,HXE.out]; exact stepOf_snoc _ _ _),M1.out.drew.f2.far HG1.out (fun e => M1.out.ne.1 e.symm),M1.out.drew.fro.grown HG1.out (fun j hj => by cases hj; exact M1.out.ne.2.2.2.1),M1.out.ne⟩
     go_wp2
     go_roundw
     case rel => exact ⟨k + 1,by omega,by go_num,M2.out⟩
     case measure => simp [intOf]; omega
   · obtain rfl : k = ed.length := by omega
     have M1 : Hid (MachUp W wr m1 b m1 m2 st ed []) := by have := M.out; rw [List.take_length] at this; exact this
     clear M
     have d2 := (DX.out wr M1.out.fro).c 2 _ rfl
     go_wp2_with fail
     clear d2
     go_loopw [40] (fun i wx => ∃ k : Nat,k ≤ mr.length ∧ i = .int .i64 k ∧ Hid (MachUp W wx m1 b m1 m2 st ed (mr.take k))) (fun i _ => mr.length - (intOf i).toNat)
     case atStart => exact ⟨0,by omega,rfl,M1.out⟩
     case round =>
      clear M1
      obtain ⟨k,hk,rfl,M⟩ := hrel
      by_cases hlt : k < mr.length
      · obtain ⟨bb,off,x,hA2,hb3,hx,e0⟩ := IntsAt.at (HX.out _ M.out.fro).mr hlt
        dsimp only at hA2
        subst hA2
        have HXE := Lib.hid hx
        clear hx
        have k1 := M.out.blk.cell 1
        go_wp2_with (at_mapUpdate; refine wpList_mapUpdate_g _ rfl _ _ _ 102 3 4 rfl _ keyI veB okI Tryd.underlying102 m2 (setF (mr.take k)) x true rfl M.out.f2 rfl rfl ?_; intro w1 hm1 hg1; have HM1 := Lib.hid hm1; clear hm1; have HG1 := Lib.hid hg1; clear hg1)
        have M2 : Hid (MachUp W w1 m1 b m1 m2 st ed (mr.take (k + 1))) := by
         refine ⟨M.out.blk.grown HG1.out (fun e => M.out.ne.2.2.1 (Option.some.inj e)),M.out.f1.far HG1.out M.out.ne.1,HM1.out.congr (fun y => by rw [List.take_add_one,HXE.out]; exact setF_snoc _ _ _),M.out.fro.grown HG1.out (fun j hj => by cases hj; exact M.out.ne.2.2.2.2.1),M.out.ne⟩
        go_wp2
        go_roundw
        case rel => exact ⟨k + 1,by omega,by go_num,M2.out⟩
        case measure => simp [intOf]; omega
      · obtain rfl : k = mr.length := by omega
        have M1 : Hid (MachUp W wr m1 b m1 m2 st ed mr) := by have := M.out; rw [List.take_length] at this; exact this
        go_wp2
        go_ret
        exact ⟨b,m1,m2,rfl,⟨HB.out.2,by have := HB.out.1; omega,by have := HB.out.1; have := M1.out.ne.2.2.2.2.1; omega⟩,⟨by rw [← ST.out]; exact M1.out.blk,M1.out.f1,M1.out.f2⟩,FX.out _ M1.out.fro⟩
end
def AuE : Reading Au := fun w a vs => ∃ p : AuP,vs = auCells a p ∧ Au.At w a p
theorem AuE.stays : Stays AuE := fun w w' a vs hb ⟨p,h1,h2⟩ => ⟨p,h1,h2.below hb⟩

set_option maxHeartbeats 1000000 in
theorem check_c (A : Option Addr) (c : Nat) (l : List Au) (kind : Int) (w : World) (h : SlAt AuE 4 w A l) (hl : l.length ≤ 140737488355328) (hr : ∀ a,a ∈ l → a.Right) (hk : kind = 1 ∨ kind = 2) :
 Calls Tryd.prog 38 #[.int .i64 kind,.slice A l.length c] w (Ret (.int .i64 0) w) := by
 have H := Lib.hid h
 have HR := Lib.hid hr
 clear h hr
 go_enter Tryd.func38,Tryd.ntmps38
 go_wp2_with fail
 go_loopw [10] (fun i wr => ∃ k : Nat,k ≤ l.length ∧ i = .int .i64 k ∧ Hid (Fro w.heap.size w wr)) (fun i _ => l.length - (intOf i).toNat)
 case atStart => exact ⟨0,by omega,rfl,Fro.here w⟩
 case round =>
  obtain ⟨k,hkl,rfl,R⟩ := hrel
  by_cases hlt : k < l.length
  · obtain ⟨b,off,a,vs,rfl,hb,ha,hvl,⟨p,hvs,hat⟩,hc⟩ := SlAt.at (H.out.below AuE.stays R.out.b) hlt
    subst hvs
    have q0 : wr.cell? ⟨b,off + k * 4,none⟩ = some (.slice p.A1 a.al.length p.c1) := by simpa using hc 0 _ rfl
    have q1 : wr.cell? ⟨b,off + k * 4 + 1,none⟩ = some (.int .i64 a.n) := hc 1 _ rfl
    have q2 : wr.cell? ⟨b,off + k * 4 + 2,none⟩ = some (.slice p.A2 a.mr.length p.c2) := hc 2 _ rfl
    have q3 : wr.cell? ⟨b,off + k * 4 + 3,none⟩ = some (.slice p.A3 a.ed.length p.c3) := hc 3 _ rfl
    have RT : Hid a.Right := HR.out a (List.mem_of_getElem? ha)
    have C := Lib.hid (Check_c a p (wr.alloc (.cells #[.slice p.A1 a.al.length p.c1,.int .i64 a.n,.slice p.A2 a.mr.length p.c2,.slice p.A3 a.ed.length p.c3] 35)) (hat.below (Below.new _ _)))
    clear ha hc hat hvl
    have R1 : Hid (Fro w.heap.size w (wr.alloc (.cells #[.slice p.A1 a.al.length p.c1,.int .i64 a.n,.slice p.A2 a.mr.length p.c2,.slice p.A3 a.ed.length p.c3] 35))) := R.out.alloc _
    go_wp2_with fail
    refine C.out.mono ?_
    rintro e w2 ⟨r,rfl,hr0,hb2⟩
    obtain rfl : r = 0 := hr0.2 RT.out
    have R2 := Lib.hid (R1.out.next hb2)
    clear hr0 hb2
    go_wp2
    go_roundw
    case rel => exact ⟨k + 1,by omega,by go_num,R2.out⟩
    case measure => simp [intOf]; omega
  · obtain rfl : k = l.length := by omega
    rcases hk with rfl | rfl
    · go_wp2
      go_ret
      exact ⟨rfl,R.out.b⟩
    · go_wp2
      go_ret
      exact ⟨rfl,R.out.b⟩
theorem flat_encI' (l : List Int) : l.flatMap encI = l.map (Value.int .i64) := by
 induction l with
 | nil => rfl
 | cons a l ih => rw [List.flatMap_cons,ih]; rfl
theorem OwnI.set {B g c L : Nat} {l : List Int} {w : World} (h : OwnI B l (.slice (some ⟨g,0,none⟩) L c) w) (hL : l.length = L) (k : Nat) (x : Int) :
 OwnI B (l.set k x) (.slice (some ⟨g,0,none⟩) L c) (w.setCell ⟨g,k,none⟩ (.int .i64 x)) := by
 subst hL
 have := (World.ownsRow.stored h k (.int .i64 x)).1
 unfold OwnI Own
 rw [List.length_set]
 rw [flat_encI',← List.map_set,← flat_encI'] at this
 exact this
theorem OwnI.cell {B g c L : Nat} {l : List Int} {w : World} (h : OwnI B l (.slice (some ⟨g,0,none⟩) L c) w) (hL : l.length = L) {k : Nat} {x : Int} (hx : l[k]? = some x) : w.cell? ⟨g,k,none⟩ = some (.int .i64 x) := by
 subst hL
 have hk := (List.getElem?_eq_some_iff.1 hx).1
 have := World.ownsRow.cellAt h k (by omega)
 rw [this,flat_encI',List.getElem?_map,hx]; rfl
theorem OwnI.frz {B g c L : Nat} {l : List Int} {w : World} (h : OwnI B l (.slice (some ⟨g,0,none⟩) L c) w) (hL : l.length = L) (k : Nat) : w.frozen? ⟨g,k,none⟩ = false := by
 subst hL
 exact World.ownsRow.frozenAt h k

def Turned (l cur : List Int) (i : Nat) : Prop := cur.length = l.length ∧ ∀ t,t < l.length → cur[t]? = if t < i ∨ l.length ≤ t + i then l[l.length - 1 - t]? else l[t]?
theorem Turned.fin {l cur : List Int} {i : Nat} (h : Turned l cur i) (hi : l.length ≤ 2 * i + 1) : cur = l.reverse := by
 apply List.ext_getElem?
 intro t
 by_cases ht : t < l.length
 · rw [h.2 t ht,List.getElem?_reverse ht]
   split
   · rfl
   · congr 1; omega
 · rw [List.getElem?_eq_none (by rw [h.1]; omega),List.getElem?_eq_none (by simp; omega)]
theorem Turned.step {l cur : List Int} {i : Nat} (h : Turned l cur i) (hi : 2 * i + 1 < l.length) {x y : Int} (hx : l[i]? = some x) (hy : l[l.length - 1 - i]? = some y) : Turned l ((cur.set i y).set (l.length - 1 - i) x) (i + 1) := by
 refine ⟨by simp [h.1],fun t ht => ?_⟩
 rw [List.getElem?_set,List.getElem?_set]
 by_cases h1 : l.length - 1 - i = t
 · rw [if_pos h1,if_pos (by rw [List.length_set,h.1]; omega),if_pos (by omega),← h1,show l.length - 1 - (l.length - 1 - i) = i by omega,hx]
 · rw [if_neg h1]
   by_cases h2 : i = t
   · subst h2
     rw [if_pos rfl,if_pos (by rw [h.1]; omega),if_pos (by omega),hy]
   · rw [if_neg h2,h.2 t ht]
     by_cases h3 : t < i ∨ l.length ≤ t + i
     · rw [if_pos h3,if_pos (by omega)]
     · rw [if_neg h3,if_neg (by omega)]

def GivesRev (B : Nat) (l : List Int) (v : Value) (w : World) (e : Ending) (w' : World) : Prop := (∃ u,e = .returned u) ∧ Hid (OwnI B l.reverse v w') ∧ Below B w w'
set_option maxHeartbeats 2000000 in
theorem reverse_c (B : Nat) (l : List Int) (g c : Nat) (w : World) (h : OwnI B l (.slice (some ⟨g,0,none⟩) l.length c) w) (hg : B ≤ g) (hl : l.length ≤ 1048576) :
 Calls Tryd.prog 67 #[.slice (some ⟨g,0,none⟩) l.length c] w (GivesRev B l (.slice (some ⟨g,0,none⟩) l.length c) w) := by
 have H := Lib.hid h
 clear h
 obtain ⟨L,hL⟩ : ∃ L,l.length = L := ⟨_,rfl⟩
 have HL := Lib.hid hL
 rw [hL] at H hl ⊢
 clear hL
 go_enter Tryd.func67,Tryd.ntmps67
 go_wp2_with fail
 go_loopw [2,3] (fun i j wr => ∃ (k : Nat) (cur : List Int),i = .int .i64 k ∧ j = .int .i64 ((L : Int) - 1 - k) ∧ 2 * k ≤ L ∧ Hid (Turned l cur k) ∧ Hid (OwnI B cur (.slice (some ⟨g,0,none⟩) L c) wr) ∧ Hid (Below B w wr)) (fun i _ _ => L - (intOf i).toNat)
 case atStart => exact ⟨0,l,rfl,by first | rfl | simp,by omega,⟨rfl,fun t ht => by rw [if_neg (by omega)]⟩,H.out,Below.refl _ _⟩
 case round =>
  clear H
  obtain ⟨k,cur,rfl,rfl,hk,T,O,R⟩ := hrel
  by_cases hlt : 2 * k + 1 < L
  · obtain ⟨x,hx⟩ : ∃ x,l[k]? = some x := ⟨_,List.getElem?_eq_getElem (by have := HL.out; omega)⟩
    obtain ⟨y,hy⟩ : ∃ y,l[L - 1 - k]? = some y := ⟨_,List.getElem?_eq_getElem (by have := HL.out; omega)⟩
    have CL : Hid (cur.length = L) := T.out.1.trans HL.out
    have hcx : cur[k]? = some x := by rw [T.out.2 k (by have := HL.out; omega),if_neg (by have := HL.out; omega)]; exact hx
    have hcy : cur[L - 1 - k]? = some y := by rw [T.out.2 _ (by have := HL.out; omega),if_neg (by have := HL.out; omega)]; exact hy
    obtain ⟨m,hm⟩ : ∃ m : Nat,m = L - 1 - k := ⟨_,rfl⟩
    have hmi : (L : Int) - 1 - k = (m : Int) := by omega
    rw [← hm] at hcy hy
    have T2 : Hid (Turned l ((cur.set k y).set m x) (k + 1)) := by
     have := T.out.step (x := x) (y := y) (by have := HL.out; omega) hx (by rw [HL.out,← hm]; exact hy)
     rw [HL.out,← hm] at this
     exact this
    have O2 : Hid (OwnI B ((cur.set k y).set m x) (.slice (some ⟨g,0,none⟩) L c) ((wr.setCell ⟨g,k,none⟩ (.int .i64 y)).setCell ⟨g,m,none⟩ (.int .i64 x)).drew) := Own.drew (OwnI.set (OwnI.set O.out CL.out k y) (by rw [List.length_set]; exact CL.out) m x)
    have R2 : Hid (Below B w ((wr.setCell ⟨g,k,none⟩ (.int .i64 y)).setCell ⟨g,m,none⟩ (.int .i64 x)).drew) := ((R.out.setCell (p := ⟨g,k,none⟩) hg _).setCell (p := ⟨g,m,none⟩) hg _).drew
    have c1 := OwnI.cell O.out CL.out hcx
    have c2 := OwnI.cell O.out CL.out hcy
    have f1 := OwnI.frz O.out CL.out k
    have f2 := OwnI.frz O.out CL.out m
    have hkm : k < m := by omega
    have hmL : m < L := by omega
    have hml : (m : Int) - 1 = (L : Int) - 1 - (k + 1 : Nat) := by omega
    have HML := Lib.hid hml
    rw [hmi]
    clear hx hy hcx hcy hm hmi hml T O
    go_wp2_with fail
    go_region
    go_wp2_with fail
    go_roundw
    case rel => exact ⟨k + 1,_,by go_num,by rw [HML.out],by omega,T2.out,O2.out,R2.out⟩
    case measure => simp [intOf]; omega
  · have hne : decide ((k : Int) < (L : Int) - 1 - k) = false := by simp; omega
    have E : Hid (cur = l.reverse) := T.out.fin (by rw [HL.out]; omega)
    go_wp2_with fail
    go_end0
    exact ⟨⟨_,rfl⟩,by rw [Hid,← E.out]; exact O.out,R.out⟩
theorem reverse_nil_c (w : World) : Calls Tryd.prog 67 #[.slice none 0 0] w (fun e w' => (∃ u,e = .returned u) ∧ Below w.heap.size w w') := by
 go_enter Tryd.func67,Tryd.ntmps67
 go_wp2_with fail
 go_loopw [2,3] (fun i j wr => i = .int .i64 0 ∧ j = .int .i64 (-1) ∧ wr = w) (fun _ _ _ => 0)
 case atStart => exact ⟨rfl,rfl,rfl⟩
 case round =>
  obtain ⟨rfl,rfl,rfl⟩ := hrel
  go_wp2_with fail
  go_end0
  exact ⟨⟨_,rfl⟩,Below.refl _ _⟩
section

section
variable {α : Type} {stp : α → Int → α} {s0 : α} {dead : α → Prop} {evs : List Int}

structure Bfs (stp : α → Int → α) (s0 : α) (dead : α → Prop) (evs : List Int) (i k : Nat) (vs : List α) (ws : List (List Int)) : Prop where
 len : ws.length = vs.length
 z : vs[0]? = some s0
 zw : ws[0]? = some []
 run : ∀ (j : Nat) (v : α) (w : List Int),vs[j]? = some v → ws[j]? = some w → w.foldl stp s0 = v
 over : ∀ w : List Int,w ∈ ws → ∀ e,e ∈ w → e ∈ evs
 asc : Asc ws
 pre : ∀ (j : Nat) (w : List Int),0 < j → ws[j]? = some w → ∃ b u e,b ≤ i ∧ b < j ∧ ws[b]? = some u ∧ w = u ++ [e]
 fr : ∀ w : List Int,w ∈ ws → ∀ (wi : List Int) (e : Int),ws[i]? = some wi → evs[k]? = some e → slt w (wi ++ [e])
 dn : ∀ (j : Nat) (v : α) (w : List Int) (t : Nat) (e : Int),vs[j]? = some v → ws[j]? = some w → evs[t]? = some e → (j < i ∨ j = i ∧ t < k) → dead (stp v e) ∨ ∃ (j' : Nat) (w' : List Int),vs[j']? = some (stp v e) ∧ ws[j']? = some w' ∧ sle w' (w ++ [e])

theorem Bfs.start : Bfs stp s0 dead evs 0 0 [s0] [[]] :=
 ⟨rfl,rfl,rfl,fun j v w hv hw => by
  have := (List.getElem?_eq_some_iff.1 hv).1
  obtain rfl : j = 0 := by simp at this; omega
  simp at hv hw; subst hv hw; rfl,fun w hw e he => by simp at hw; subst hw; simp at he,fun i j u v hij hu hv => by
  have := (List.getElem?_eq_some_iff.1 hv).1; simp at this; omega,fun j w hj hw => by
  have := (List.getElem?_eq_some_iff.1 hw).1; simp at this; omega,fun w hw wi e hi he => by
  simp at hw hi; subst hw; exact .inl (by simp),fun j v w t e _ _ _ h => by omega⟩

theorem Bfs.word {i k : Nat} {vs : List α} {ws : List (List Int)} (h : Bfs stp s0 dead evs i k vs ws) {j : Nat} {v : α} (hv : vs[j]? = some v) : ∃ w,ws[j]? = some w :=
 ⟨_,List.getElem?_eq_getElem (by rw [h.len]; exact (List.getElem?_eq_some_iff.1 hv).1)⟩

theorem Bfs.skip (hinc : incr evs) {i k : Nat} {vs : List α} {ws : List (List Int)} (h : Bfs stp s0 dead evs i k vs ws) {v : α} {e : Int} (hv : vs[i]? = some v) (he : evs[k]? = some e) (hs : dead (stp v e) ∨ ∃ j' : Nat,vs[j']? = some (stp v e)) : Bfs stp s0 dead evs i (k + 1) vs ws := by
 obtain ⟨wi,hwi⟩ := h.word hv
 refine ⟨h.len,h.z,h.zw,h.run,h.over,h.asc,h.pre,fun w hw wi' e' hi he' => ?_,fun j v' w t e' hv' hw ht hc => ?_⟩
 · exact (h.fr w hw wi' e hi he).trans (slt_snoc_lt _ (hinc k (k + 1) e e' (by omega) he he'))
 · by_cases hold : j < i ∨ j = i ∧ t < k
   · exact h.dn j v' w t e' hv' hw ht hold
   · obtain ⟨rfl,rfl⟩ : j = i ∧ t = k := by omega
     rw [hv] at hv'; cases hv'
     rw [he] at ht; cases ht
     rcases hs with g | ⟨j',hj'⟩
     · exact .inl g
     · obtain ⟨w',hw'⟩ := h.word hj'
       exact .inr ⟨j',w',hj',hw',.inl (h.fr w' (List.mem_of_getElem? hw') w e hw he)⟩

theorem Bfs.push (hinc : incr evs) {i k : Nat} {vs : List α} {ws : List (List Int)} (h : Bfs stp s0 dead evs i k vs ws) {v : α} {e : Int} {wi : List Int} (hv : vs[i]? = some v) (he : evs[k]? = some e) (hwi : ws[i]? = some wi) :
 Bfs stp s0 dead evs i (k + 1) (vs ++ [stp v e]) (ws ++ [wi ++ [e]]) := by
 refine ⟨by simp [h.len],get_keep h.z _,get_keep h.zw _,fun j v' w hv' hw => ?_,fun w hw e' he' => ?_,h.asc.push fun u hu => h.fr u hu wi e hwi he,fun j w hj hw => ?_,fun w hw wi' e' hi he' => ?_,fun j v' w t e' hv' hw ht hc => ?_⟩
 · rcases getElem?_snoc hw with g | ⟨g,rfl⟩
   · have hj := (List.getElem?_eq_some_iff.1 g).1
     rw [List.getElem?_append_left (by rw [← h.len]; exact hj)] at hv'
     exact h.run j v' w hv' g
   · rw [g,h.len] at hv'
     simp at hv'
     rw [List.foldl_append,h.run i v wi hv hwi]
     exact hv'
 · rcases List.mem_append.1 hw with g | g
   · exact h.over w g e' he'
   · simp at g; subst g
     rcases List.mem_append.1 he' with g | g
     · exact h.over wi (List.mem_of_getElem? hwi) e' g
     · simp at g; subst g; exact List.mem_of_getElem? he
 · rcases getElem?_snoc hw with g | ⟨g,rfl⟩
   · obtain ⟨b,u,e',h1,h2,h3,h4⟩ := h.pre j w hj g
     exact ⟨b,u,e',h1,h2,get_keep h3 _,h4⟩
   · exact ⟨i,wi,e,Nat.le_refl _,by rw [g]; exact (List.getElem?_eq_some_iff.1 hwi).1,get_keep hwi _,rfl⟩
 · have : wi' = wi := by
    have := get_keep hwi (wi ++ [e])
    rw [hi] at this; exact Option.some.inj this
   subst this
   have hlt := slt_snoc_lt wi' (hinc k (k + 1) e e' (by omega) he he')
   rcases List.mem_append.1 hw with g | g
   · exact (h.fr w g wi' e hwi he).trans hlt
   · simp at g; subst g; exact hlt
 · have hvl : ∀ {j : Nat} {x : α},(vs ++ [stp v e])[j]? = some x → j ≤ i → vs[j]? = some x := fun {j x} hx hj => by
    have := (List.getElem?_eq_some_iff.1 hv).1
    rwa [List.getElem?_append_left (by omega)] at hx
   have hwl : ∀ {j : Nat} {x : List Int},(ws ++ [wi ++ [e]])[j]? = some x → j ≤ i → ws[j]? = some x := fun {j x} hx hj => by
    have := (List.getElem?_eq_some_iff.1 hwi).1
    rwa [List.getElem?_append_left (by omega)] at hx
   have hv2 := hvl hv' (by omega)
   have hw2 := hwl hw (by omega)
   by_cases hold : j < i ∨ j = i ∧ t < k
   · rcases h.dn j v' w t e' hv2 hw2 ht hold with g | ⟨j',w',h1,h2,h3⟩
     · exact .inl g
     · exact .inr ⟨j',w',get_keep h1 _,get_keep h2 _,h3⟩
   · obtain ⟨rfl,rfl⟩ : j = i ∧ t = k := by omega
     rw [hv] at hv2; cases hv2
     rw [he] at ht; cases ht
     rw [hwi] at hw2; cases hw2
     exact .inr ⟨vs.length,wi ++ [e],by simp,by rw [← h.len]; simp,sle.refl _⟩

theorem Bfs.next {i : Nat} {vs : List α} {ws : List (List Int)} (h : Bfs stp s0 dead evs i evs.length vs ws) : Bfs stp s0 dead evs (i + 1) 0 vs ws := by
 refine ⟨h.len,h.z,h.zw,h.run,h.over,h.asc,fun j w hj hw => ?_,fun w hw wi e hi he => ?_,fun j v w t e hv hw ht hc => ?_⟩
 · obtain ⟨b,u,e,h1,h2⟩ := h.pre j w hj hw
   exact ⟨b,u,e,by omega,h2⟩
 · obtain ⟨j,hj,rfl⟩ := List.mem_iff_getElem.1 hw
   have hjg : ws[j]? = some ws[j] := List.getElem?_eq_getElem hj
   rcases Nat.lt_trichotomy j (i + 1) with g | g | g
   · exact (h.asc j (i + 1) _ _ g hjg hi).trans (slt_snoc _ _)
   · subst g
     rw [hjg] at hi
     have := Option.some.inj hi
     rw [this]; exact slt_snoc _ _
   · obtain ⟨b,u,e',h1,h2,h3,h4⟩ := h.pre j _ (by omega) hjg
     rw [h4]
     exact (h.asc b (i + 1) u wi (by omega) h3 hi).snoc _ _
 · have := (List.getElem?_eq_some_iff.1 ht).1
   exact h.dn j v w t e hv hw ht (by omega)

theorem Bfs.claim (hd : ∀ s e,dead s → dead (stp s e)) {i k : Nat} {vs : List α} {ws : List (List Int)} (h : Bfs stp s0 dead evs i k vs ws) (w : List Int) :
 (∀ e,e ∈ w → e ∈ evs) → dead (w.foldl stp s0) ∨ (∃ (j : Nat) (u : List Int),vs[j]? = some (w.foldl stp s0) ∧ ws[j]? = some u ∧ sle u w) ∨ ∃ wi : List Int,ws[i]? = some wi ∧ sle wi w := by
 refine snoc_ind (P := fun w => (∀ e,e ∈ w → e ∈ evs) → dead (w.foldl stp s0) ∨ (∃ (j : Nat) (u : List Int),vs[j]? = some (w.foldl stp s0) ∧ ws[j]? = some u ∧ sle u w) ∨ ∃ wi : List Int,ws[i]? = some wi ∧ sle wi w) ?_ ?_ w
 · intro _
   exact .inr (.inl ⟨0,[],h.z,h.zw,sle.refl _⟩)
 · intro u e ih hov
   rw [List.foldl_append]
   simp only [List.foldl_cons,List.foldl_nil]
   rcases ih (fun x hx => hov x (by simp [hx])) with g | ⟨j,v,hj,hv,hle⟩ | ⟨wi,hi,hle⟩
   · exact .inl (hd _ _ g)
   · by_cases hji : j < i
     · obtain ⟨t,ht,hte⟩ := List.mem_iff_getElem.1 (hov e (by simp))
       rcases h.dn j _ v t e hj hv (by rw [List.getElem?_eq_getElem ht,hte]) (.inl hji) with g | ⟨j',w',h1,h2,h3⟩
       · exact .inl g
       · exact .inr (.inl ⟨j',w',h1,h2,h3.trans (hle.snoc e)⟩)
     · have hjl := (List.getElem?_eq_some_iff.1 hv).1
       obtain ⟨wi,hwi⟩ : ∃ wi,ws[i]? = some wi := ⟨_,List.getElem?_eq_getElem (by omega)⟩
       refine .inr (.inr ⟨wi,hwi,?_⟩)
       have h1 : sle wi v := by
        rcases Nat.lt_or_eq_of_le (Nat.le_of_not_lt hji) with g | g
        · exact .inl (h.asc i j wi v g hwi hv)
        · subst g; rw [hwi] at hv; cases hv; exact sle.refl _
       exact (h1.trans hle).trans (.inl (slt_snoc _ _))
   · exact .inr (.inr ⟨wi,hi,hle.trans (.inl (slt_snoc _ _))⟩)

def LeadsTo (stp : α → Int → α) (s0 : α) (evs : List Int) (P : α → Prop) (w : List Int) : Prop := (∀ e,e ∈ w → e ∈ evs) ∧ P (w.foldl stp s0)
theorem Bfs.least (hd : ∀ s e,dead s → dead (stp s e)) {P : α → Prop} (hP : ∀ s,dead s → ¬ P s) {i k : Nat} {vs : List α} {ws : List (List Int)} (h : Bfs stp s0 dead evs i k vs ws) (hno : ∀ j v,j < i → vs[j]? = some v → ¬ P v)
 {v : α} {w : List Int} (hv : vs[i]? = some v) (hw : ws[i]? = some w) (hp : P v) : LeastW (LeadsTo stp s0 evs P) w := by
 refine ⟨⟨h.over w (List.mem_of_getElem? hw),by rw [h.run i v w hv hw]; exact hp⟩,fun u hu => ?_⟩
 rcases h.claim hd u hu.1 with g | ⟨j,x,hj,hx,hle⟩ | ⟨wi,hi,hle⟩
 · exact absurd hu.2 (hP _ g)
 · by_cases hji : j < i
   · exact absurd hu.2 (hno j _ hji hj)
   · rcases Nat.lt_or_eq_of_le (Nat.le_of_not_lt hji) with g | g
     · exact .trans (.inl (h.asc i j w x g hw hx)) hle
     · subst g; rw [hw] at hx; cases hx; exact hle
 · rw [hw] at hi; cases hi; exact hle
theorem Bfs.none_ (hd : ∀ s e,dead s → dead (stp s e)) {P : α → Prop} (hP : ∀ s,dead s → ¬ P s) {i k : Nat} {vs : List α} {ws : List (List Int)} (h : Bfs stp s0 dead evs i k vs ws) (hi : vs.length ≤ i) (hno : ∀ (j : Nat) v,vs[j]? = some v → ¬ P v) (w : List Int) : ¬ LeadsTo stp s0 evs P w := by
 rintro ⟨h1,h2⟩
 rcases h.claim hd w h1 with g | ⟨j,x,hj,hx,_⟩ | ⟨wi,hwi,_⟩
 · exact hP _ g h2
 · exact hno j _ hj h2
 · have := (List.getElem?_eq_some_iff.1 hwi).1
   rw [h.len] at this; omega
def Link (bs : List (Int × Int)) (ws : List (List Int)) : Prop := bs.length = ws.length ∧ ∀ (j : Nat) (b : Int × Int),bs[j]? = some b → (j = 0 → b.1 = -1) ∧ (0 < j → ∃ (t : Nat) (u w : List Int),b.1 = t ∧ t < j ∧ ws[t]? = some u ∧ ws[j]? = some w ∧ w = u ++ [b.2])
theorem Link.push {bs : List (Int × Int)} {ws : List (List Int)} (h : Link bs ws) {i : Nat} {wi : List Int} (e : Int) (hi : ws[i]? = some wi) : Link (bs ++ [((i : Int),e)]) (ws ++ [wi ++ [e]]) := by
 refine ⟨by simp [h.1],fun j b hb => ?_⟩
 have hil := (List.getElem?_eq_some_iff.1 hi).1
 rcases getElem?_snoc hb with g | ⟨g,rfl⟩
 · obtain ⟨h1,h2⟩ := h.2 j b g
   refine ⟨h1,fun hj => ?_⟩
   obtain ⟨t,u,w,k1,k2,k3,k4,k5⟩ := h2 hj
   exact ⟨t,u,w,k1,k2,get_keep k3 _,get_keep k4 _,k5⟩
 · rw [h.1] at g
   refine ⟨fun hj => by omega,fun _ => ⟨i,wi,wi ++ [e],rfl,by omega,get_keep hi _,by rw [g]; simp,rfl⟩⟩
end
end
end Go.Proofs.YtkifgffhoenaoaaDoor
