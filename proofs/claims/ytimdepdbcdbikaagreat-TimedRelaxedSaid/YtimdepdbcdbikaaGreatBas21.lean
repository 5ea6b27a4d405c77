/-
  Plain: what the spans of Duration say: with bounds of at most 4 they agree with the list of all states and numbers of ticks up to a limit.
  Plain: the law's list of all states and numbers of ticks.
  Words for the laws of layer 44: the made model as one thing; what its states are; lists of small numbers.
-/
import Derived.Test.YtimdepdbcdbikaaGreatBas18
import Derived.Test.YtimdepdbcdbikaaGreatBas20
set_option linter.unusedSimpArgs false
set_option linter.unusedVariables false
namespace Go.Proofs.YtimdepdbcdbikaaGreat
open Go.RowKit
set_option maxRecDepth 100000
section
def tkN (m : Md) : Nat → Ck → Option Ck
 | 0,c => some c
 | j + 1,c => (tkN m j c).bind m.tick
section
variable {m : Md}
theorem tkN_add (i j : Nat) (c : Ck) : tkN m (i + j) c = (tkN m i c).bind (tkN m j) := by
 induction j with
 | zero => cases h : tkN m i c <;> simp [tkN,h]
 | succ j ih =>
   rw [← Nat.add_assoc]
   show (tkN m (i + j) c).bind m.tick = _
   rw [ih]
   cases h : tkN m i c <;> simp [tkN]
theorem tkN_none {i j : Nat} {c : Ck} (h : tkN m i c = none) (hij : i ≤ j) : tkN m j c = none := by
 obtain ⟨d,rfl⟩ := Nat.exists_eq_add_of_le hij
 rw [tkN_add,h]; rfl
structure Chn (m : Md) (c : Ck) (ls : List Ck) (o : Option Nat) : Prop where
 get : ∀ i,i < ls.length → tkN m i c = ls[i]?
 no : o = none → tkN m ls.length c = none
 lp : ∀ j,o = some j → j < ls.length ∧ tkN m ls.length c = ls[j]?
theorem tks_chn (c : Ck) : ∀ (k : Nat) (ls : List Ck) (x : Ck),(∀ i,i < ls.length → tkN m i c = ls[i]?) → tkN m ls.length c = some x → (tks m k ls x).1.length < ls.length + k → Chn m c (tks m k ls x).1 (tks m k ls x).2
 | 0,ls,x,h1,h2,h3 => by simp [tks] at h3
 | k + 1,ls,x,h1,h2,h3 => by
   unfold tks at h3 ⊢
   by_cases hin : x ∈ ls
   · rw [if_pos hin] at h3 ⊢
     have hi := idxK_lt hin
     refine ⟨h1,(fun h => by cases h),fun j h => ?_⟩
     simp only [Option.some.injEq] at h
     subst h
     exact ⟨hi,by rw [h2]; exact (idxK_get hin).symm⟩
   · rw [if_neg hin] at h3 ⊢
     have h4 : ∀ i,i < (ls ++ [x]).length → tkN m i c = (ls ++ [x])[i]? := fun i hi => by
      rw [List.length_append,List.length_singleton] at hi
      by_cases e : i < ls.length
      · rw [List.getElem?_append_left e]; exact h1 i e
      · obtain rfl : i = ls.length := by omega
        rw [h2]; simp
     have h5 : tkN m (ls ++ [x]).length c = m.tick x := by
      rw [List.length_append,List.length_singleton]
      show (tkN m ls.length c).bind m.tick = _
      rw [h2]; rfl
     cases ht : m.tick x with
     | none =>
       exact ⟨h4,(fun _ => by rw [h5]; exact ht),(fun j h => by cases h)⟩
     | some d =>
       rw [ht] at h3
       simp only at h3
       refine tks_chn c k (ls ++ [x]) d h4 (by rw [h5]; exact ht) ?_
       rw [List.length_append,List.length_singleton]
       omega
theorem tks_chn0 (hm : m.Ok) (hf : Few m) {c : Ck} (hc : m.Is c) : Chn m c (tks m fuelT [] c).1 (tks m fuelT [] c).2 := by
 obtain ⟨h1,h2⟩ := tks_ok hm fuelT [] c (by simp) (by simp) hc
 have hl := hf _ h1 h2
 refine tks_chn c fuelT [] c (fun i hi => by simp at hi) rfl ?_
 show _ < 0 + 4001
 omega
theorem Chn.per {c : Ck} {ls : List Ck} {j : Nat} (h : Chn m c ls (some j)) (k : Nat) (hk : j ≤ k) : tkN m (k + (ls.length - j)) c = tkN m k c := by
 obtain ⟨h1,h2⟩ := h.lp j rfl
 have h3 : tkN m ls.length c = tkN m j c := by rw [h2,h.get j h1]
 obtain ⟨d,rfl⟩ := Nat.exists_eq_add_of_le hk
 have e : j + d + (ls.length - j) = ls.length + d := by omega
 rw [e,tkN_add,h3,← tkN_add]
theorem Chn.pers {c : Ck} {ls : List Ck} {j : Nat} (h : Chn m c ls (some j)) (k : Nat) (hk : j ≤ k) : ∀ q : Nat,tkN m (k + q * (ls.length - j)) c = tkN m k c
 | 0 => by rw [Nat.zero_mul]; rfl
 | q + 1 => by
   rw [Nat.succ_mul,← Nat.add_assoc,h.per _ (by omega),h.pers k hk q]
theorem Chn.red {c : Ck} {ls : List Ck} {j : Nat} (h : Chn m c ls (some j)) : ∀ k : Nat,j ≤ k → ∃ r,j ≤ r ∧ r < ls.length ∧ r ≤ k ∧ tkN m r c = tkN m k c := by
 intro k
 induction k using Nat.strongRecOn with
 | _ k ih =>
   intro hk
   have h1 := (h.lp j rfl).1
   by_cases hl : k < ls.length
   · exact ⟨k,hk,hl,Nat.le_refl _,rfl⟩
   · obtain ⟨r,r1,r2,r3,r4⟩ := ih (k - (ls.length - j)) (by omega) (by omega)
     refine ⟨r,r1,r2,by omega,?_⟩
     rw [r4,← h.per (k - (ls.length - j)) (by omega)]
     congr 1
     omega
theorem mem_cnX {i : Nat} {s : Sp} {b : Bool} {ls : List Ck} {k : Nat} {x : Ck × Sp} : x ∈ cnX m i s b ls k ↔ ∃ d,ls[k]? = some d ∧ m.act d i = some x.1 ∧ x.2 = ⟨s.lo + k,s.hi + k,b⟩ := by
 unfold cnX
 cases h1 : ls[k]? with
 | none => simp
 | some d =>
   simp only [Option.some.injEq,exists_eq_left']
   cases h2 : m.act d i with
   | none => simp
   | some t =>
     simp only [List.mem_singleton,Option.some.injEq]
     constructor
     · rintro rfl; exact ⟨rfl,rfl⟩
     · rintro ⟨h,g⟩; exact Prod.ext h.symm g
theorem mem_cnR {i : Nat} {s : Sp} {b : Bool} {ls : List Ck} {j n : Nat} {x : Ck × Sp} : x ∈ cnR m i s b ls j n ↔ ∃ k d,j ≤ k ∧ k < j + n ∧ ls[k]? = some d ∧ m.act d i = some x.1 ∧ x.2 = ⟨s.lo + k,s.hi + k,b⟩ := by
 unfold cnR
 rw [List.mem_flatMap]
 constructor
 · rintro ⟨t,ht,hx⟩
   obtain ⟨d,h1,h2,h3⟩ := mem_cnX.1 hx
   have := List.mem_range.1 ht
   exact ⟨j + t,d,by omega,by omega,h1,h2,h3⟩
 · rintro ⟨k,d,h1,h2,h3,h4,h5⟩
   refine ⟨k - j,List.mem_range.2 (by omega),mem_cnX.2 ⟨d,?_,h4,?_⟩⟩
   · rw [show j + (k - j) = k by omega]; exact h3
   · rw [show j + (k - j) = k by omega]; exact h5
abbrev RelT := Ck → Int → Prop
structure Cov (E : List (Ck × Sp)) (R : RelT) : Prop where
 lo : ∀ x,x ∈ E → R x.1 x.2.lo
 hi : ∀ x,x ∈ E → x.2.en = false → R x.1 x.2.hi
 en : ∀ x,x ∈ E → x.2.en = true → ∀ N : Int,∃ n,N ≤ n ∧ R x.1 n
 all : ∀ u n,R u n → ∃ s,(u,s) ∈ E ∧ s.lo ≤ n ∧ (s.en = false → n ≤ s.hi)
structure Cvr (E L : List (Ck × Sp)) : Prop where
 nd : (E.map Prod.fst).Nodup
 lo : ∀ x,x ∈ E → ∃ y,y ∈ L ∧ y.1 = x.1 ∧ y.2.lo = x.2.lo
 hi : ∀ x,x ∈ E → ∃ y,y ∈ L ∧ y.1 = x.1 ∧ y.2.hi = x.2.hi
 en : ∀ x,x ∈ E → x.2.en = true → ∃ y,y ∈ L ∧ y.1 = x.1 ∧ y.2.en = true
 all : ∀ y,y ∈ L → ∃ s,(y.1,s) ∈ E ∧ s.lo ≤ y.2.lo ∧ y.2.hi ≤ s.hi ∧ (y.2.en = true → s.en = true)
theorem Cvr.ins {E L : List (Ck × Sp)} (h : Cvr E L) (x : Ck × Sp) : Cvr (insS E x) (L ++ [x]) := by
 have nd := insS_nd h.nd x
 unfold insS at nd ⊢
 by_cases hx : x.1 ∈ E.map Prod.fst
 · rw [if_pos hx] at nd ⊢
   refine ⟨nd,fun y hy => ?_,fun y hy => ?_,fun y hy he => ?_,fun y hy => ?_⟩
   · obtain ⟨e,hE,rfl⟩ := List.mem_map.1 hy
     obtain ⟨z,z1,z2,z3⟩ := h.lo e hE
     by_cases g : e.1 = x.1
     · rw [if_pos g]
       by_cases k : e.2.lo ≤ x.2.lo
       · exact ⟨z,List.mem_append_left _ z1,z2,by rw [z3]; show _ = min e.2.lo x.2.lo; omega⟩
       · exact ⟨x,by simp,g.symm,by show _ = min e.2.lo x.2.lo; omega⟩
     · rw [if_neg g]; exact ⟨z,List.mem_append_left _ z1,z2,z3⟩
   · obtain ⟨e,hE,rfl⟩ := List.mem_map.1 hy
     obtain ⟨z,z1,z2,z3⟩ := h.hi e hE
     by_cases g : e.1 = x.1
     · rw [if_pos g]
       by_cases k : x.2.hi ≤ e.2.hi
       · exact ⟨z,List.mem_append_left _ z1,z2,by rw [z3]; show _ = max e.2.hi x.2.hi; omega⟩
       · exact ⟨x,by simp,g.symm,by show _ = max e.2.hi x.2.hi; omega⟩
     · rw [if_neg g]; exact ⟨z,List.mem_append_left _ z1,z2,z3⟩
   · obtain ⟨e,hE,rfl⟩ := List.mem_map.1 hy
     by_cases g : e.1 = x.1
     · rw [if_pos g] at he ⊢
       have he : (e.2.en || x.2.en) = true := he
       by_cases k : e.2.en = true
       · obtain ⟨z,z1,z2,z3⟩ := h.en e hE k
         exact ⟨z,List.mem_append_left _ z1,z2,z3⟩
       · rw [Bool.or_eq_true] at he
         exact ⟨x,by simp,g.symm,he.resolve_left k⟩
     · rw [if_neg g] at he ⊢
       obtain ⟨z,z1,z2,z3⟩ := h.en e hE he
       exact ⟨z,List.mem_append_left _ z1,z2,z3⟩
   · have key : ∀ e : Ck × Sp,e ∈ E → e.1 = x.1 → (e.1,jn (some e.2) x.2) ∈ E.map fun e => if e.1 = x.1 then (e.1,jn (some e.2) x.2) else e := fun e hE g => List.mem_map.2 ⟨e,hE,by rw [if_pos g]⟩
     rcases List.mem_append.1 hy with g | g
     · obtain ⟨s,s1,s2,s3,s4⟩ := h.all y g
       by_cases k : y.1 = x.1
       · refine ⟨_,key (y.1,s) s1 k,?_,?_,fun q => ?_⟩
         · show min s.lo x.2.lo ≤ _; omega
         · show _ ≤ max s.hi x.2.hi; omega
         · show (s.en || x.2.en) = true; rw [s4 q]; rfl
       · exact ⟨s,List.mem_map.2 ⟨_,s1,by rw [if_neg k]⟩,s2,s3,s4⟩
     · simp only [List.mem_singleton] at g
       subst g
       obtain ⟨e,hE,g⟩ := List.mem_map.1 hx
       have := key e hE g
       rw [g] at this
       refine ⟨_,this,?_,?_,fun q => ?_⟩
       · show min e.2.lo y.2.lo ≤ _; omega
       · show _ ≤ max e.2.hi y.2.hi; omega
       · show (e.2.en || y.2.en) = true; rw [q,Bool.or_true]
 · rw [if_neg hx] at nd ⊢
   refine ⟨nd,fun y hy => ?_,fun y hy => ?_,fun y hy he => ?_,fun y hy => ?_⟩
   · rcases List.mem_append.1 hy with g | g
     · obtain ⟨z,z1,z2,z3⟩ := h.lo y g
       exact ⟨z,List.mem_append_left _ z1,z2,z3⟩
     · exact ⟨y,List.mem_append_right _ g,rfl,rfl⟩
   · rcases List.mem_append.1 hy with g | g
     · obtain ⟨z,z1,z2,z3⟩ := h.hi y g
       exact ⟨z,List.mem_append_left _ z1,z2,z3⟩
     · exact ⟨y,List.mem_append_right _ g,rfl,rfl⟩
   · rcases List.mem_append.1 hy with g | g
     · obtain ⟨z,z1,z2,z3⟩ := h.en y g he
       exact ⟨z,List.mem_append_left _ z1,z2,z3⟩
     · exact ⟨y,List.mem_append_right _ g,rfl,he⟩
   · rcases List.mem_append.1 hy with g | g
     · obtain ⟨s,s1,s2,s3,s4⟩ := h.all y g
       exact ⟨s,List.mem_append_left _ s1,s2,s3,s4⟩
     · exact ⟨y.2,List.mem_append_right _ g,Int.le_refl _,Int.le_refl _,id⟩
theorem Cvr.insL (L : List (Ck × Sp)) : Cvr (insL L) L := by
 have : ∀ (L E L0 : List (Ck × Sp)),Cvr E L0 → Cvr (L.foldl insS E) (L0 ++ L) := by
  intro L
  induction L with
  | nil => intro E L0 h; simpa using h
  | cons x L ih =>
    intro E L0 h
    have := ih _ _ (h.ins x)
    rw [List.append_assoc] at this
    exact this
 have h := this L [] [] ⟨by simp,by simp,by simp,by simp,by simp⟩
 exact h
theorem Cvr.uni {E L : List (Ck × Sp)} (h : Cvr E L) {u : Ck} {s t : Sp} (h1 : (u,s) ∈ E) (h2 : (u,t) ∈ E) : s = t := by
 have a := (lkS_mem h.nd).2 h1
 have b := (lkS_mem h.nd).2 h2
 rw [a] at b
 exact Option.some.inj b
theorem Cov.join {E L : List (Ck × Sp)} {R : RelT} (h : Cvr E L) (k : Cov L R) : Cov E R := by
 refine ⟨fun x hx => ?_,fun x hx he => ?_,fun x hx he => ?_,fun u n hr => ?_⟩
 · obtain ⟨y,y1,y2,y3⟩ := h.lo x hx
   rw [← y2,← y3]; exact k.lo y y1
 · obtain ⟨y,y1,y2,y3⟩ := h.hi x hx
   rw [← y2,← y3]
   refine k.hi y y1 ?_
   obtain ⟨s,s1,_,_,s4⟩ := h.all y y1
   rw [y2] at s1
   have := h.uni s1 hx
   subst this
   cases hb : y.2.en with
   | false => rfl
   | true => rw [s4 hb] at he; cases he
 · obtain ⟨y,y1,y2,y3⟩ := h.en x hx he
   rw [← y2]; exact k.en y y1 y3
 · obtain ⟨s,s1,s2,s3⟩ := k.all u n hr
   obtain ⟨t,t1,t2,t3,t4⟩ := h.all _ s1
   refine ⟨t,t1,Int.le_trans t2 s2,fun he => Int.le_trans (s3 ?_) t3⟩
   cases hb : s.en with
   | false => rfl
   | true => rw [t4 hb] at he; cases he
def nextR (m : Md) (i : Nat) (R : RelT) : RelT := fun u n => ∃ c n0 j d,R c n0 ∧ n = n0 + ((j : Nat) : Int) ∧ tkN m j c = some d ∧ m.act d i = some u
theorem Cov.step (hm : m.Ok) (hf : Few m) {E : List (Ck × Sp)} {R : RelT} (hE : ∀ x,x ∈ E → m.Is x.1) (k : Cov E R) (i : Nat) : Cov (nxtV m i E) (nextR m i R) := by
 refine Cov.join (Cvr.insL _) ⟨fun x hx => ?_,fun x hx he => ?_,fun x hx he => ?_,fun u n hr => ?_⟩
 all_goals try
  obtain ⟨y,hy,hx⟩ := List.mem_flatMap.1 hx
  have ch := tks_chn0 hm hf (hE y hy)
  unfold conV at hx
  rw [List.mem_append] at hx
 · rcases hx with g | g
   · obtain ⟨k2,d,h1,h2,h3,h4,h5⟩ := mem_cnR.1 g
     rw [h5]
     exact ⟨y.1,y.2.lo,k2,d,k.lo y hy,rfl,by rw [ch.get _ (by omega)]; exact h3,h4⟩
   · cases ho : (tks m fuelT [] y.1).2 with
     | none => rw [ho] at g; simp at g
     | some j =>
       rw [ho] at g
       obtain ⟨k2,d,h1,h2,h3,h4,h5⟩ := mem_cnR.1 g
       rw [h5]
       exact ⟨y.1,y.2.lo,k2,d,k.lo y hy,rfl,by rw [ch.get _ (List.getElem?_eq_some_iff.1 h3).1]; exact h3,h4⟩
 · rcases hx with g | g
   · obtain ⟨k2,d,h1,h2,h3,h4,h5⟩ := mem_cnR.1 g
     rw [h5] at he ⊢
     exact ⟨y.1,y.2.hi,k2,d,k.hi y hy he,rfl,by rw [ch.get _ (by omega)]; exact h3,h4⟩
   · cases ho : (tks m fuelT [] y.1).2 with
     | none => rw [ho] at g; simp at g
     | some j =>
       rw [ho] at g
       obtain ⟨k2,d,h1,h2,h3,h4,h5⟩ := mem_cnR.1 g
       rw [h5] at he; cases he
 · intro N
   rcases hx with g | g
   · obtain ⟨k2,d,h1,h2,h3,h4,h5⟩ := mem_cnR.1 g
     rw [h5] at he
     obtain ⟨n,hn,hr⟩ := k.en y hy he N
     exact ⟨n + (k2 : Nat),by omega,y.1,n,k2,d,hr,rfl,by rw [ch.get _ (by omega)]; exact h3,h4⟩
   · cases ho : (tks m fuelT [] y.1).2 with
     | none => rw [ho] at g; simp at g
     | some j =>
       rw [ho] at g ch
       obtain ⟨k2,d,h1,h2,h3,h4,h5⟩ := mem_cnR.1 g
       have hj := (ch.lp j rfl).1
       have hp := ch.pers k2 h1 (N - y.2.lo).toNat
       refine ⟨y.2.lo + ((k2 + (N - y.2.lo).toNat * ((tks m fuelT [] y.1).1.length - j) : Nat) : Int),?_,y.1,y.2.lo,_,d,k.lo y hy,rfl,by rw [hp,ch.get _ (List.getElem?_eq_some_iff.1 h3).1]; exact h3,h4⟩
       have : (N - y.2.lo).toNat * 1 ≤ (N - y.2.lo).toNat * ((tks m fuelT [] y.1).1.length - j) := Nat.mul_le_mul_left _ (by omega)
       omega
 · obtain ⟨c,n0,j,d,h1,rfl,h3,h4⟩ := hr
   obtain ⟨s,s1,s2,s3⟩ := k.all c n0 h1
   have ch := tks_chn0 hm hf (hE _ s1)
   dsimp only at ch
   by_cases hl : j < (tks m fuelT [] c).1.length
   · refine ⟨⟨s.lo + j,s.hi + j,s.en⟩,List.mem_flatMap.2 ⟨_,s1,?_⟩,by dsimp only; omega,fun he => by have := s3 he; dsimp only; omega⟩
     unfold conV
     rw [List.mem_append]
     exact .inl (mem_cnR.2 ⟨j,d,Nat.zero_le _,by show j < 0 + (tks m fuelT [] c).1.length; omega,by rw [← ch.get _ hl]; exact h3,h4,rfl⟩)
   · cases ho : (tks m fuelT [] c).2 with
     | none => rw [tkN_none (ch.no ho) (by omega)] at h3; cases h3
     | some j0 =>
       rw [ho] at ch
       have hj := (ch.lp j0 rfl).1
       obtain ⟨r,r1,r2,r3,r4⟩ := ch.red j (by omega)
       refine ⟨⟨s.lo + r,s.hi + r,true⟩,List.mem_flatMap.2 ⟨_,s1,?_⟩,by dsimp only; omega,fun he => by cases he⟩
       unfold conV
       rw [List.mem_append,ho]
       exact .inr (mem_cnR.2 ⟨r,d,r1,by show r < j0 + ((tks m fuelT [] c).1.length - j0); omega,by rw [← ch.get _ r2,r4]; exact h3,h4,rfl⟩)
def reT (m : Md) (w : List Int) : Nat → RelT
 | 0 => fun u n => u = m.start ∧ n = 0
 | k + 1 => nextR m (m.idx (w.getD k 0)) (reT m w k)
def LowB (m : Md) : Prop := ∀ i : Nat,i < m.ac.length → (m.at i).df ≤ 4
structure AllOf (s : Sp) (L : List (Ck × Sp)) : Prop where
 lo : ∃ x,x ∈ L ∧ x.2.lo = s.lo
 hi : ∃ x,x ∈ L ∧ x.2.hi = s.hi
 en : s.en = true → ∃ x,x ∈ L ∧ x.2.en = true
 all : ∀ x,x ∈ L → s.lo ≤ x.2.lo ∧ x.2.hi ≤ s.hi ∧ (x.2.en = true → s.en = true)
theorem AllOf.one (x : Ck × Sp) : AllOf x.2 [x] := ⟨⟨x,by simp,rfl⟩,⟨x,by simp,rfl⟩,fun h => ⟨x,by simp,h⟩,fun y hy => by simp at hy; subst hy; exact ⟨Int.le_refl _,Int.le_refl _,id⟩⟩
theorem AllOf.more {s : Sp} {L : List (Ck × Sp)} (h : AllOf s L) (x : Ck × Sp) : AllOf (jn (some s) x.2) (L ++ [x]) := by
 refine ⟨?_,?_,fun he => ?_,fun y hy => ?_⟩
 · obtain ⟨y,y1,y2⟩ := h.lo
   by_cases k : s.lo ≤ x.2.lo
   · exact ⟨y,List.mem_append_left _ y1,by rw [y2]; show _ = min s.lo x.2.lo; omega⟩
   · exact ⟨x,by simp,by show _ = min s.lo x.2.lo; omega⟩
 · obtain ⟨y,y1,y2⟩ := h.hi
   by_cases k : x.2.hi ≤ s.hi
   · exact ⟨y,List.mem_append_left _ y1,by rw [y2]; show _ = max s.hi x.2.hi; omega⟩
   · exact ⟨x,by simp,by show _ = max s.hi x.2.hi; omega⟩
 · have he : (s.en || x.2.en) = true := he
   by_cases k : s.en = true
   · obtain ⟨y,y1,y2⟩ := h.en k
     exact ⟨y,List.mem_append_left _ y1,y2⟩
   · rw [Bool.or_eq_true] at he
     exact ⟨x,by simp,he.resolve_left k⟩
 · show min s.lo x.2.lo ≤ _ ∧ _ ≤ max s.hi x.2.hi ∧ (_ → (s.en || x.2.en) = true)
   rcases List.mem_append.1 hy with g | g
   · obtain ⟨a,b,c⟩ := h.all y g
     exact ⟨by omega,by omega,fun q => by rw [c q]; rfl⟩
   · simp only [List.mem_singleton] at g
     subst g
     exact ⟨by omega,by omega,fun q => by rw [q,Bool.or_true]⟩
def lgV (D : List (Ck × Int)) : Nat → Int × Int
 | 0 => (0,0)
 | k + 1 => (min (if k = 0 then (D.getD k ((0,[]),0)).2 else (lgV D k).1) (D.getD k ((0,[]),0)).2,max (lgV D k).2 (D.getD k ((0,[]),0)).2)
def refDu (D : List (Ck × Int)) (most : Int) : Int × Int × Bool := ((lgV D D.length).1,if most ≤ (lgV D D.length).2 then -1 else (lgV D D.length).2,decide (0 < D.length))
end
end
section
abbrev Rd := Ck × Int
def addD (l : List Rd) (x : Rd) : List Rd := if x ∈ l then l else l ++ [x]
def putD (m : Md) (e : Int) (s : Ck) (n : Int) (next : List Rd) : List Rd := match m.eff e s with
 | none => next
 | some t => addD next (t,n)
def waitD (m : Md) (e most : Int) : Nat → Ck → Int → List Rd → List Rd
 | 0,_,_,next => next
 | f + 1,s,n,next => if n ≤ most then (match m.tick s with
    | none => putD m e s n next
    | some s' => waitD m e most f s' (n + 1) (putD m e s n next)) else next
section
variable {m : Md}
def fuelD (most n : Int) : Nat := (most + 1 - n).toNat
def rowD (m : Md) (e most : Int) (L : List Rd) (j : Nat) : List Rd := (L.take j).foldl (fun nx x => waitD m e most (fuelD most x.2) x.1 x.2 nx) []
def refL (m : Md) (most : Int) (w : List Int) : Nat → List Rd
 | 0 => [(m.start,0)]
 | k + 1 => rowD m (w.getD k 0) most (refL m most w k) (refL m most w k).length
end
theorem Sm5.low (x : Sm5) : LowB x.md := fun i hi => by
 have h4 : i < 4 := by simpa [Sm5.md,Sm5.acs] using hi
 have : x.md.at i = x.ac i := by
  refine Md.at_get ?_
  show (x.acs 4)[i]? = _
  unfold Sm5.acs
  rw [List.getElem?_map,List.getElem?_range h4]; rfl
 rw [this]
 exact (x.df_rg i).2
end
def eMdl (m : Md) (P : MdP) : Ent := (eInts m.a.al (.slice P.p.A1 m.a.al.length P.p.c1)).and ((eInts m.a.mr (.slice P.p.A2 m.a.mr.length P.p.c2)).and ((eEds m.a.ed (.slice P.p.A3 m.a.ed.length P.p.c3)).and (eOwn Ac.cells 3 44 m.ac (.slice P.B m.ac.length P.d))))
theorem eMdl_at {m : Md} {P : MdP} {w : World} (h : (eMdl m P).ok w) (hl : Lens m.a) : Md.At w m P :=
 ⟨⟨OwnI.ints h.1,OwnI.ints h.2.1,Own.reads (fun _ => rfl) h.2.2.1,hl.1,hl.2.1,hl.2.2⟩,Own.reads (fun _ => rfl) h.2.2.2⟩
theorem eMdl_cap {m : Md} {P : MdP} {w : World} (h : (eMdl m P).ok w) : m.a.al.length ≤ P.p.c1 := Own.cap h.1
theorem Sep.mdAt {n : Nat} {w0 w : World} {es : List Ent} {m : Md} {P : MdP} (S : Sep n w0 es w) (i : Nat) (hi : es[i]? = some (eMdl m P)) (hl : Lens m.a) : Md.At w m P := eMdl_at (S.get i hi) hl
theorem Sep.mdCap {n : Nat} {w0 w : World} {es : List Ent} {m : Md} {P : MdP} (S : Sep n w0 es w) (i : Nat) (hi : es[i]? = some (eMdl m P)) : m.a.al.length ≤ P.p.c1 := eMdl_cap (S.get i hi)
def GivesMdl (m : Md) (w : World) (e : Ending) (w' : World) : Prop := ∃ P : MdP,e = .returned (.agg (m.cells P).toArray) ∧ Hid (Sep w.heap.size w [eMdl m P] w')
theorem makeM_c (x : Sm5) (w : World) (hx : x.Ok) : Calls Tryz.prog 6 #[.agg x.cells.toArray] w (GivesMdl x.md w) := by
 refine (make44_c x w hx).mono ?_
 rintro e w' ⟨P,rfl,S⟩
 refine ⟨P,rfl,?_⟩
 have h : Sep w.heap.size w [eInts x.d4.au.al (.slice P.p.A1 x.d4.au.al.length P.p.c1),eInts x.d4.au.mr (.slice P.p.A2 x.d4.au.mr.length P.p.c2),eEds x.d4.au.ed (.slice P.p.A3 x.d4.au.ed.length P.p.c3),eOwn Ac.cells 3 44 (x.acs 4) (.slice P.B 4 P.d)] w' := S.out
 have h2 := (h.pick [2,3,0,1] (by decide)).join
 have h3 := (h2.pick [2,0,1] (by decide)).pick [0,2,1] (by decide)
 have h4 : Sep w.heap.size w [eInts x.d4.au.mr (.slice P.p.A2 x.d4.au.mr.length P.p.c2),(eEds x.d4.au.ed (.slice P.p.A3 x.d4.au.ed.length P.p.c3)).and (eOwn Ac.cells 3 44 (x.acs 4) (.slice P.B 4 P.d)),eInts x.d4.au.al (.slice P.p.A1 x.d4.au.al.length P.p.c1)] w' := h2.pick [2,0,1] (by decide)
 exact (h4.join.pick [1,0] (by decide)).join
theorem Sm5.cells_len {x : Sm5} (h : x.Ok) : x.cells.length = 34 := by
 have := Sm4.cells_len h.d
 simp [Sm5.cells,h.l,this]
theorem Sm5.info {x : Sm5} (h : x.Ok) : (Tryz.prog.info? 29).map (·.size) = some x.cells.length := by rw [Sm5.cells_len h]; kernel_rfl
structure Sml (m : Md) : Prop where
 ok : m.Ok
 few : Few m
 low : LowB m
 all : m.all = [0,1,2,3,4]
 al : m.a.al = [0,1,2,3]
 n : 0 < m.a.n
 len : m.ac.length = 4
 tk : m.tk = 4
 ev : ∀ i : Nat,i < 4 → m.ev i = i
 lens : Lens m.a
theorem Sm5.sml {x : Sm5} (h : x.Ok) : Sml x.md where
 ok := x.md_ok h
 few := x.few h
 low := x.low
 all := by show unionV [0,1,2,3] [4] = _; simp [unionV,mergeV,orF]
 al := rfl
 n := by
  show 0 < ((x.d4.n : Nat) : Int)
  have := Sm4.n_rg (Sm5.d4_ok h)
  omega
 len := by show (x.acs 4).length = 4; exact x.acs_len 4
 tk := rfl
 ev := fun i hi => by
  have : (x.acs 4)[i]? = some (x.ac i) := by
   unfold Sm5.acs
   rw [List.getElem?_map,List.getElem?_range hi]; rfl
  exact Md.ev_get (m := x.md) this
 lens := Sm4.lens (Sm5.d4_ok h)
structure Okc (m : Md) (c : Ck) : Prop where
 is_ : m.Is c
 df : ∀ i,i < m.ac.length → m.pr c.1 i = false → tmr c i = (m.at i).df
theorem Okc.e {m : Md} {c : Ck} (h : Okc m c) : stE m c = 0 := stE_zero h.is_ h.df
theorem Okc.start {m : Md} (hm : m.Ok) (hn : 0 < m.a.n) : Okc m m.start := ⟨Md.Is.start hm hn,fun i hi _ => by unfold Md.start; rw [Md.dfs_at hi]⟩
theorem Okc.tick {m : Md} (hm : m.Ok) {c d : Ck} (h : Okc m c) (ht : m.tick c = some d) : Okc m d := by
 refine ⟨h.is_.tick hm ht,fun i hi hp => ?_⟩
 unfold Md.tick at ht
 split at ht
 · cases ht
 · cases ht
   rw [Md.fall_at _ _ _ hi,if_neg]
   · exact h.df i hi hp
   · rintro ⟨_,g,_⟩
     have hp : m.pr c.1 i = false := hp
     rw [hp] at g; cases g
theorem Okc.act {m : Md} (hm : m.Ok) {c d : Ck} {i : Nat} (h : Okc m c) (ht : m.act c i = some d) : Okc m d := by
 refine ⟨h.is_.act hm ht,fun j hj hp => ?_⟩
 unfold Md.act at ht
 split at ht
 · cases ht
   rw [Md.then_at _ _ _ _ hj,if_neg]
   rintro ⟨_,_,_,g⟩
   have hp : m.pr (m.nx c.1 i) j = false := hp
   rw [hp] at g; cases g
 · cases ht
theorem Okc.eff {m : Md} (hm : m.Ok) {c d : Ck} {e : Int} (h : Okc m c) (ht : m.eff e c = some d) : Okc m d := by
 unfold Md.eff at ht
 split at ht
 · exact h.tick hm ht
 · exact h.act hm ht
theorem Okc.len {m : Md} (s : Sml m) {c : Ck} (h : Okc m c) : c.2.length = 4 := by rw [h.is_.len,s.len]
def GivesLast (dd : Ck) (bb : Bool) (r : Int) (w : World) (e : Ending) (w' : World) : Prop := ∃ (A : Option Addr) (cp : Nat),e = .returned (.tuple #[.agg #[.int .i64 dd.1,.slice A dd.2.length cp],.bool bb,.int .i64 r]) ∧ Hid (Sep w.heap.size w [eInts dd.2 (.slice A dd.2.length cp)] w')
def GivesLastR (dd : Ck) (bb : Bool) (w : World) (e : Ending) (w' : World) : Prop := ∃ (A : Option Addr) (cp : Nat),e = .returned (.tuple #[.agg #[.int .i64 dd.1,.slice A dd.2.length cp],.bool bb]) ∧ Hid (Sep w.heap.size w [eInts dd.2 (.slice A dd.2.length cp)] w')
def U8E : Reading Int := fun _ x vs => vs = [.int .u8 x] ∧ 0 ≤ x ∧ x < 256
theorem U8E.stays : Stays U8E := fun _ _ _ _ _ h => h
abbrev U8sAt := SlAt U8E 1
theorem U8sAt.at {w : World} {A : Option Addr} {l : List Int} (h : U8sAt w A l) {k : Nat} (hk : k < l.length) : ∃ b off x,A = some ⟨b,off,none⟩ ∧ b < w.heap.size ∧ l[k]? = some x ∧ (0 ≤ x ∧ x < 256) ∧ w.cell? ⟨b,off + k,none⟩ = some (.int .u8 x) := by
 obtain ⟨b,off,x,vs,hA,hb,hx,_,hv,hc⟩ := SlAt.at h hk
 obtain ⟨rfl,h1,h2⟩ := hv
 exact ⟨b,off,x,hA,hb,hx,⟨h1,h2⟩,by have := hc 0 (.int .u8 x) rfl; simpa using this⟩
end Go.Proofs.YtimdepdbcdbikaaGreat
