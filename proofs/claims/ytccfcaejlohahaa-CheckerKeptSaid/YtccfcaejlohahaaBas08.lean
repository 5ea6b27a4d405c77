/-
  Plain: what synthesis removes and keeps, as a certificate that the checker accepts.
  A region that draws its order, met by ONE relation of what has come up to what there is: one step for each operation, not one for each order.
  synthesis.start: a problem, with the sources of the edges into each state (printed by gen_Vd.py).
-/
import Derived.Test.YtccfcaejlohahaaBas01
import Derived.Test.YtccfcaejlohahaaBas06
import Derived.Test.YtccfcaejlohahaaBas05
import Derived.Test.YtccfcaejlohahaaBas07
import Derived.Test.YtccfcaejlohahaaBas03
import Derived.Test.YtccfcaejlohahaaBas02
import Derived.BigQuiet
import Derived.Deep.CutBlock
import Derived.Deep.DeepCutAuto
set_option linter.unusedSimpArgs false
set_option linter.unusedVariables false
namespace Go.Proofs.Ytccfcaejlohahaa
open Go.RowKit
set_option maxRecDepth 100000
section
theorem mkV_memV {X : Nat → Bool} {k : Nat} {x : Int} : x ∈ mkV X k ↔ ∃ s : Nat,x = s ∧ s < k ∧ X s = true := by
 simp only [mkV,List.mem_map,List.mem_filter,List.mem_range]
 constructor
 · rintro ⟨s,⟨h1,h2⟩,rfl⟩
   exact ⟨s,rfl,h1,h2⟩
 · rintro ⟨s,rfl,h1,h2⟩
   exact ⟨s,⟨h1,h2⟩,rfl⟩
set_option maxHeartbeats 2000000 in
theorem rsp {α : Type} {R : α → α → Prop} {l : List α} (h : Rises R l) : l.Pairwise R := List.pairwise_iff_getElem.2 fun i j hi hj hij => h i j _ _ hij (List.getElem?_eq_getElem hi) (List.getElem?_eq_getElem hj)
theorem pwr {α : Type} {R : α → α → Prop} {l : List α} (h : l.Pairwise R) : Rises R l := fun i j u v hij hu hv => by
 obtain ⟨hi,rfl⟩ := List.getElem?_eq_some_iff.1 hu
 obtain ⟨hj,rfl⟩ := List.getElem?_eq_some_iff.1 hv
 exact List.pairwise_iff_getElem.1 h i j hi hj hij
theorem setOk.rgV {l : List Int} {n : Int} (h : setOk l n l.length) {x : Int} (hx : x ∈ l) : 0 ≤ x ∧ x < n := by
 obtain ⟨i,hi,rfl⟩ := List.mem_iff_getElem.1 hx
 have := h i _ hi (List.getElem?_eq_getElem hi)
 exact ⟨this.1,this.2.1⟩
theorem lowerP.more {R l : List Rm} {i k : Int} (h : lowerP R i k) : lowerP (R ++ l) i k := by
 obtain ⟨r,h1,h2⟩ := h
 exact ⟨r,List.mem_append_left _ h1,h2⟩
theorem alikeP.more {R l : List Rm} {i k : Int} (h : alikeP R i k) : alikeP (R ++ l) i k := by
 obtain ⟨r,h1,h2⟩ := h
 exact ⟨r,List.mem_append_left _ h1,h2⟩
theorem removesP.sub {forb unc mr : List Int} {R R' : List Rm} {es : List Ed} {r : Rm} (hs : ∀ x,x ∈ R → x ∈ R') (h : removesP forb unc mr R es r) : removesP forb unc mr R' es r := by
 have hl : ∀ i k,lowerP R i k → lowerP R' i k := fun i k ⟨q,h1,h2⟩ => ⟨q,hs q h1,h2⟩
 have ha : ∀ i k,alikeP R i k → alikeP R' i k := fun i k ⟨q,h1,h2⟩ => ⟨q,hs q h1,h2⟩
 rcases h with h | ⟨h1,h2,x,h3,h4,h5⟩ | ⟨h1,h2,h3,h4⟩
 · exact .inl h
 · exact .inr (.inl ⟨h1,h2,x,h3,h4,hl _ _ h5⟩)
 · exact .inr (.inr ⟨h1,h2,h3,fun ⟨x,h5,h6,h7⟩ => h4 ⟨x,h5,fun g => h6 (hl _ _ g),fun g => h7 (ha _ _ g)⟩⟩)
def lostP (unc : List Int) (left : Nat → Bool) (x : Ed) : Prop := left x.src.toNat = true ∧ left x.dst.toNat = false ∧ x.ev ∈ unc
structure LostI (unc : List Int) (left : Nat → Bool) (rank : Int) (ed : List Ed) (k : Nat) (out : List Rm) : Prop where
 a : ∀ r,r ∈ out → ∃ x,x ∈ ed.take k ∧ r = ⟨x.src,rank,2,x.ev⟩ ∧ lostP unc left x
 c : ∀ x,x ∈ ed.take k → lostP unc left x → ∃ r,r ∈ out ∧ r.st = x.src
 up : Rises (fun p q : Rm => p.st < q.st) out
 ln : out.length ≤ k
theorem LostI.start (unc : List Int) (left : Nat → Bool) (rank : Int) (ed : List Ed) : LostI unc left rank ed 0 [] := ⟨by simp,by simp,fun i j u v _ hu => by simp at hu,by simp⟩
theorem take_snocE' {l : List Ed} {x : Ed} {j : Nat} (h : l[j]? = some x) : l.take (j + 1) = l.take j ++ [x] := by rw [List.take_add_one,h]; rfl
section
variable {unc : List Int} {left : Nat → Bool} {rank : Int} {ed : List Ed} {k : Nat} {out : List Rm} {x : Ed}
theorem LostI.no (h : LostI unc left rank ed k out) (hx : ed[k]? = some x) (hn : ¬ lostP unc left x ∨ ∃ r,r ∈ out ∧ r.st = x.src) : LostI unc left rank ed (k + 1) out := by
 refine ⟨fun r hr => ?_,fun y hy hl => ?_,h.up,by have := h.ln; omega⟩
 · obtain ⟨y,h1,h2⟩ := h.a r hr
   exact ⟨y,by rw [take_snocE' hx]; exact List.mem_append_left _ h1,h2⟩
 · rw [take_snocE' hx,List.mem_append,List.mem_singleton] at hy
   rcases hy with hy | rfl
   · exact h.c y hy hl
   · rcases hn with g | g
     · exact absurd hl g
     · exact g
theorem LostI.yes (h : LostI unc left rank ed k out) (hx : ed[k]? = some x) (hl : lostP unc left x) (hs : ∀ i y,i < k → ed[i]? = some y → y.src ≤ x.src) (hn : ∀ r,out.getLast? = some r → r.st ≠ x.src) : LostI unc left rank ed (k + 1) (out ++ [⟨x.src,rank,2,x.ev⟩]) := by
 have hle : ∀ r,r ∈ out → r.st ≤ x.src := fun r hr => by
  obtain ⟨y,h1,rfl,_⟩ := h.a r hr
  obtain ⟨i,hi,hiy⟩ := List.mem_iff_getElem.1 h1
  rw [List.length_take] at hi
  refine hs i y (by omega) ?_
  rw [List.getElem_take] at hiy
  rw [← hiy]; exact List.getElem?_eq_getElem (by omega)
 refine ⟨fun r hr => ?_,fun y hy hly => ?_,?_,by rw [List.length_append]; have := h.ln; simp; omega⟩
 · rcases List.mem_append.1 hr with hr | hr
   · obtain ⟨y,h1,h2⟩ := h.a r hr
     exact ⟨y,by rw [take_snocE' hx]; exact List.mem_append_left _ h1,h2⟩
   · obtain rfl := List.mem_singleton.1 hr
     exact ⟨x,by rw [take_snocE' hx]; simp,rfl,hl⟩
 · rw [take_snocE' hx,List.mem_append,List.mem_singleton] at hy
   rcases hy with hy | rfl
   · obtain ⟨r,h1,h2⟩ := h.c y hy hly
     exact ⟨r,List.mem_append_left _ h1,h2⟩
   · exact ⟨_,List.mem_append_right _ (List.mem_singleton.2 rfl),rfl⟩
 · have hp := rsp h.up
   refine pwr (List.pairwise_append.2 ⟨hp,List.pairwise_singleton ..,fun r hr q hq => ?_⟩)
   obtain rfl := List.mem_singleton.1 hq
   show r.st < x.src
   have h1 := hle r hr
   have h2 : r.st ≠ x.src := fun e => by
    have hne : out ≠ [] := List.ne_nil_of_mem hr
    have hlast := hn (out.getLast hne) (List.getLast?_eq_some_getLast hne)
    have h3 := hle _ (List.getLast_mem hne)
    obtain ⟨i,hi,hir⟩ := List.mem_iff_getElem.1 hr
    rcases Nat.lt_or_ge i (out.length - 1) with g | g
    · have := h.up i (out.length - 1) r (out.getLast hne) g (by rw [← hir]; exact List.getElem?_eq_getElem hi) (by rw [List.getLast_eq_getElem]; exact List.getElem?_eq_getElem _)
      omega
    · apply hlast
      rw [List.getLast_eq_getElem]
      rw [← e,← hir]
      congr 2
      omega
   omega
end
structure DstOk (n : Nat) (mr : List Int) (ed : List Ed) (left : Nat → Bool) (d : Nat → Int) : Prop where
 neg : ∀ i,i < n → d i < 0 → d i = -1
 hi : ∀ i,i < n → d i < n
 lf : ∀ i,i < n → 0 ≤ d i → left i = true
 z : ∀ i : Nat,i < n → d i = 0 → (i : Int) ∈ mr
 m : ∀ i : Nat,i < n → left i = true → (i : Int) ∈ mr → d i = 0
 s : ∀ i : Nat,i < n → 0 < d i → ∃ x,x ∈ ed ∧ x.src = (i : Int) ∧ 0 ≤ d x.dst.toNat ∧ d x.dst.toNat < d i
 c : ∀ x,x ∈ ed → left x.src.toNat = true → 0 ≤ d x.dst.toNat → 0 ≤ d x.src.toNat
structure DI (n : Nat) (mr : List Int) (ed : List Ed) (left : Nat → Bool) (i j : Nat) (l : List Int) (d : Nat → Int) : Prop where
 nd : l.Nodup
 b : ∀ x,x ∈ l → 0 ≤ x ∧ x < (n : Int)
 mem : ∀ t : Nat,t < n → (0 ≤ d t ↔ (t : Int) ∈ l)
 neg : ∀ t,t < n → d t < 0 → d t = -1
 ix : ∀ (k : Nat) (x : Int),l[k]? = some x → d x.toNat ≤ k
 lf : ∀ t,t < n → 0 ≤ d t → left t = true
 z : ∀ t : Nat,t < n → d t = 0 → (t : Int) ∈ mr
 m : ∀ t : Nat,t < n → left t = true → (t : Int) ∈ mr → d t = 0
 s : ∀ t : Nat,t < n → 0 < d t → ∃ x,x ∈ ed ∧ x.src = (t : Int) ∧ 0 ≤ d x.dst.toNat ∧ d x.dst.toNat < d t
 c : ∀ (k : Nat) (t : Int),k < i → l[k]? = some t → ∀ y,y ∈ predsOf ed t.toNat → left y.toNat = true → 0 ≤ d y.toNat
 cj : ∀ (t : Int),l[i]? = some t → ∀ (q : Nat) (y : Int),q < j → (predsOf ed t.toNat)[q]? = some y → left y.toNat = true → 0 ≤ d y.toNat
structure DM (n : Nat) (mr : List Int) (left : Nat → Bool) (k : Nat) (l : List Int) (d : Nat → Int) : Prop where
 nd : l.Nodup
 b : ∀ x,x ∈ l → (0 ≤ x ∧ x < (n : Int)) ∧ left x.toNat = true ∧ x ∈ mr.take k
 all : ∀ x,x ∈ mr.take k → left x.toNat = true → x ∈ l
 d : ∀ t : Nat,t < n → d t = if (t : Int) ∈ l then 0 else -1
section
variable {n : Nat} {mr : List Int} {ed : List Ed} {left : Nat → Bool} {i j k : Nat} {l : List Int} {d : Nat → Int}
theorem DM.start : DM n mr left 0 [] (fun _ => -1) := ⟨by simp,by simp,by simp,by simp⟩
theorem DM.no {x : Int} (h : DM n mr left k l d) (hx : mr[k]? = some x) (hl : left x.toNat = false) : DM n mr left (k + 1) l d := by
 refine ⟨h.nd,fun y hy => ?_,fun y hy hly => ?_,h.d⟩
 · obtain ⟨h1,h2,h3⟩ := h.b y hy
   exact ⟨h1,h2,by rw [List.take_add_one,hx]; exact List.mem_append_left _ h3⟩
 · rw [List.take_add_one,hx,Option.toList_some,List.mem_append,List.mem_singleton] at hy
   rcases hy with hy | rfl
   · exact h.all y hy hly
   · rw [hl] at hly; cases hly
theorem DM.yes {x : Int} (h : DM n mr left k l d) (hx : mr[k]? = some x) (hb : 0 ≤ x ∧ x < (n : Int)) (hm : mr.Nodup) (hl : left x.toNat = true) : DM n mr left (k + 1) (l ++ [x]) (fun t => if t = x.toNat then 0 else d t) := by
 have hk := (List.getElem?_eq_some_iff.1 hx).1
 have hnx : ¬ x ∈ l := fun g => by
  obtain ⟨_,_,h3⟩ := h.b x g
  obtain ⟨q,hq,hqx⟩ := List.mem_iff_getElem.1 h3
  rw [List.length_take] at hq
  rw [List.getElem_take] at hqx
  have := (List.pairwise_iff_getElem.1 (List.nodup_iff_pairwise_ne.1 hm)) q k (by omega) hk (by omega)
  exact this (by rw [hqx]; exact (List.getElem?_eq_some_iff.1 hx).2.symm)
 refine ⟨?_,fun y hy => ?_,fun y hy hly => ?_,fun t ht => ?_⟩
 · rw [List.nodup_append]
   exact ⟨h.nd,by simp,fun a ha b hb e => by simp at hb; subst hb; subst e; exact hnx ha⟩
 · rw [List.take_add_one,hx]
   rcases List.mem_append.1 hy with hy | hy
   · obtain ⟨h1,h2,h3⟩ := h.b y hy
     exact ⟨h1,h2,List.mem_append_left _ h3⟩
   · obtain rfl := List.mem_singleton.1 hy
     exact ⟨hb,hl,by simp⟩
 · rw [List.take_add_one,hx,Option.toList_some,List.mem_append,List.mem_singleton] at hy
   rcases hy with hy | rfl
   · exact List.mem_append_left _ (h.all y hy hly)
   · simp
 · by_cases e : t = x.toNat
   · subst e
     rw [if_pos rfl,if_pos (by rw [Int.toNat_of_nonneg hb.1]; simp)]
   · rw [if_neg e,h.d t ht]
     have : ¬ (t : Int) = x := fun g => e (by rw [← g]; rfl)
     simp [this]
theorem DM.fin (h : DM n mr left mr.length l d) (hr : ∀ x,x ∈ ed → (0 ≤ x.src ∧ x.src < (n : Int)) ∧ 0 ≤ x.dst ∧ x.dst < (n : Int)) : DI n mr ed left 0 0 l d := by
 have hd := h.d
 have hm : ∀ x,x ∈ l → x ∈ mr := fun x hx => by have := (h.b x hx).2.2; rwa [List.take_length] at this
 refine ⟨h.nd,fun x hx => (h.b x hx).1,fun t ht => ?_,fun t ht hn => ?_,fun q x hq => ?_,fun t ht h0 => ?_,fun t ht h0 => ?_,fun t ht hl hmm => ?_,fun t ht h0 => ?_,fun q t hq => absurd hq (by omega),fun t _ q y hq => absurd hq (by omega)⟩
 · rw [hd t ht]; split <;> simp [*]
 · rw [hd t ht] at hn ⊢; split at hn
   · omega
   · rw [if_neg (by assumption)]
 · have hb := h.b x (List.mem_of_getElem? hq)
   rw [hd x.toNat (by omega),Int.toNat_of_nonneg hb.1.1,if_pos (List.mem_of_getElem? hq)]
   omega
 · rw [hd t ht] at h0; split at h0
   · rename_i g; exact (h.b _ g).2.1
   · omega
 · rw [hd t ht] at h0; split at h0
   · rename_i g; exact hm _ g
   · omega
 · rw [hd t ht,if_pos (h.all (t : Int) (by rwa [List.take_length]) (by simpa using hl))]
 · rw [hd t ht] at h0; split at h0 <;> omega
theorem mem_predsOf' {s : Nat} {y : Int} : y ∈ predsOf ed s ↔ ∃ x,x ∈ ed ∧ x.dst = (s : Int) ∧ x.src = y := by
 unfold predsOf
 rw [List.mem_map]
 simp only [List.mem_filter,decide_eq_true_eq,and_assoc]
theorem DI.no {t y : Int} (h : DI n mr ed left i j l d) (ht : l[i]? = some t) (hy : (predsOf ed t.toNat)[j]? = some y) (hn : left y.toNat = false ∨ 0 ≤ d y.toNat) : DI n mr ed left i (j + 1) l d :=
 ⟨h.nd,h.b,h.mem,h.neg,h.ix,h.lf,h.z,h.m,h.s,h.c,fun t' ht' q z hq hz hl => by
  rw [ht] at ht'; cases ht'
  rcases Nat.lt_or_ge q j with g | g
  · exact h.cj t ht q z g hz hl
  · obtain rfl : q = j := by omega
    rw [hy] at hz; cases hz
    rcases hn with g | g
    · rw [hl] at g; cases g
    · exact g⟩
theorem DI.yes {t : Int} {y : Nat} (h : DI n mr ed left i j l d) (ht : l[i]? = some t) (hy : (predsOf ed t.toNat)[j]? = some (y : Int)) (hyn : y < n) (hl : left y = true) (hd : d y < 0) :
 DI n mr ed left i (j + 1) (l ++ [(y : Int)]) (fun s => if s = y then d t.toNat + 1 else d s) := by
 have hil := (List.getElem?_eq_some_iff.1 ht).1
 have hny : ¬ (y : Int) ∈ l := fun g => by have := (h.mem y hyn).2 g; omega
 have htb := h.b t (List.mem_of_getElem? ht)
 have htd : 0 ≤ d t.toNat := (h.mem t.toNat (by omega)).2 (by rw [Int.toNat_of_nonneg htb.1]; exact List.mem_of_getElem? ht)
 have hix := h.ix i t ht
 have hty : t.toNat ≠ y := fun e => by rw [e] at htd; omega
 have up : ∀ s,0 ≤ d s → 0 ≤ (if s = y then d t.toNat + 1 else d s) := fun s hs => by split <;> omega
 have old : ∀ s,0 ≤ d s → (if s = y then d t.toNat + 1 else d s) = d s := fun s hs => if_neg fun e => by rw [e] at hs; omega
 refine ⟨?_,fun x hx => ?_,fun s hs => ?_,fun s hs hn => ?_,fun k x hk => ?_,fun s hs h0 => ?_,fun s hs h0 => ?_,fun s hs hls hm => ?_,fun s hs h0 => ?_,fun k s hk hs z hz hlz => ?_,fun s hs q z hq hz hlz => ?_⟩
 · rw [List.nodup_append]
   exact ⟨h.nd,by simp,fun a ha b hb e => by simp at hb; subst hb; subst e; exact hny ha⟩
 · rcases List.mem_append.1 hx with hx | hx
   · exact h.b x hx
   · obtain rfl := List.mem_singleton.1 hx; omega
 · by_cases e : s = y
   · subst e; simp; omega
   · have : ¬ (s : Int) = (y : Int) := by omega
     simp [e,this,h.mem s hs]
 · by_cases e : s = y
   · subst e; rw [if_pos rfl] at hn; omega
   · rw [if_neg e] at hn ⊢; exact h.neg s hs hn
 · rcases Nat.lt_or_ge k l.length with g | g
   · rw [List.getElem?_append_left g] at hk
     have hb := h.b x (List.mem_of_getElem? hk)
     have h0 : 0 ≤ d x.toNat := (h.mem x.toNat (by omega)).2 (by rw [Int.toNat_of_nonneg hb.1]; exact List.mem_of_getElem? hk)
     show (if x.toNat = y then d t.toNat + 1 else d x.toNat) ≤ _
     rw [old _ h0]; exact h.ix k x hk
   · rw [List.getElem?_append_right g] at hk
     have h1 := (List.getElem?_eq_some_iff.1 hk).1
     simp at h1
     have e : k = l.length := by omega
     subst e
     simp at hk
     subst hk
     simp
     omega
 · by_cases e : s = y
   · subst e; exact hl
   · rw [if_neg e] at h0; exact h.lf s hs h0
 · by_cases e : s = y
   · subst e; rw [if_pos rfl] at h0; omega
   · rw [if_neg e] at h0; exact h.z s hs h0
 · have h1 := h.m s hs hls hm
   show (if s = y then d t.toNat + 1 else d s) = 0
   rw [old s (by omega)]; exact h1
 · by_cases e : s = y
   · subst e
     obtain ⟨x,h1,h2,h3⟩ := mem_predsOf'.1 (List.mem_of_getElem? hy)
     have e2 : x.dst.toNat = t.toNat := by omega
     refine ⟨x,h1,h3,?_,?_⟩
     · show 0 ≤ (if x.dst.toNat = s then d t.toNat + 1 else d x.dst.toNat)
       rw [e2,if_neg hty]; exact htd
     · show (if x.dst.toNat = s then d t.toNat + 1 else d x.dst.toNat) < (if s = s then d t.toNat + 1 else d s)
       rw [e2,if_neg hty,if_pos rfl]; omega
   · have h0' : 0 < d s := by have := h0; simp only [e,if_false] at this; exact this
     obtain ⟨x,h1,h2,h3,h4⟩ := h.s s hs h0'
     refine ⟨x,h1,h2,?_,?_⟩
     · show 0 ≤ (if x.dst.toNat = y then d t.toNat + 1 else d x.dst.toNat)
       rw [old _ h3]; exact h3
     · show (if x.dst.toNat = y then d t.toNat + 1 else d x.dst.toNat) < (if s = y then d t.toNat + 1 else d s)
       rw [old _ h3,if_neg e]; exact h4
 · rw [List.getElem?_append_left (by omega)] at hs
   exact up _ (h.c k s hk hs z hz hlz)
 · rw [List.getElem?_append_left hil,ht] at hs
   cases hs
   rcases Nat.lt_or_ge q j with g | g
   · exact up _ (h.cj t ht q z g hz hlz)
   · obtain rfl : q = j := by omega
     rw [hy] at hz; cases hz
     show 0 ≤ (if (y : Int).toNat = y then d t.toNat + 1 else d (y : Int).toNat)
     rw [if_pos (by simp)]; omega
theorem DI.next {t : Int} (h : DI n mr ed left i (predsOf ed t.toNat).length l d) (ht : l[i]? = some t) : DI n mr ed left (i + 1) 0 l d :=
 ⟨h.nd,h.b,h.mem,h.neg,h.ix,h.lf,h.z,h.m,h.s,fun k s hk hs y hy hl => by
  rcases Nat.lt_or_ge k i with g | g
  · exact h.c k s g hs y hy hl
  · obtain rfl : k = i := by omega
    rw [ht] at hs; cases hs
    obtain ⟨q,hq,hqy⟩ := List.mem_iff_getElem.1 hy
    exact h.cj t ht q y hq (by rw [← hqy]; exact List.getElem?_eq_getElem hq) hl,fun _ _ q y hq => absurd hq (by omega)⟩
theorem DI.fin (h : DI n mr ed left l.length 0 l d) (hr : ∀ x,x ∈ ed → (0 ≤ x.src ∧ x.src < (n : Int)) ∧ 0 ≤ x.dst ∧ x.dst < (n : Int)) : DstOk n mr ed left d := by
 refine ⟨h.neg,fun t ht => ?_,h.lf,h.z,h.m,h.s,fun x hx hl h0 => ?_⟩
 · by_cases g : 0 ≤ d t
   · obtain ⟨k,hk,hkt⟩ := List.mem_iff_getElem.1 ((h.mem t ht).1 g)
     have h1 := h.ix k t (by rw [← hkt]; exact List.getElem?_eq_getElem hk)
     have h2 := nodup_len n l h.nd h.b
     simp only [Int.toNat_natCast] at h1
     omega
   · omega
 · have hb := hr x hx
   have h1 := (h.mem x.dst.toNat (by omega)).1 h0
   rw [Int.toNat_of_nonneg hb.2.1] at h1
   obtain ⟨k,hk,hkt⟩ := List.mem_iff_getElem.1 h1
   exact h.c k x.dst hk (by rw [← hkt]; exact List.getElem?_eq_getElem hk) x.src (mem_predsOf'.2 ⟨x,hx,by omega,rfl⟩) hl
end
def blkV (left : Nat → Bool) (d : Nat → Int) (rank : Int) (k : Nat) : List Rm := ((List.range k).filter fun i => left i && decide (d i < 0)).map fun i : Nat => ⟨i,rank,3,-1⟩
theorem blkV_yes {left : Nat → Bool} {d : Nat → Int} {rank : Int} {k : Nat} (h : left k = true ∧ d k < 0) : blkV left d rank (k + 1) = blkV left d rank k ++ [⟨k,rank,3,-1⟩] := by simp [blkV,List.range_succ,List.filter_append,h.1,h.2]
theorem blkV_no {left : Nat → Bool} {d : Nat → Int} {rank : Int} {k : Nat} (h : ¬ (left k = true ∧ d k < 0)) : blkV left d rank (k + 1) = blkV left d rank k := by
 have : (left k && decide (d k < 0)) = false := by
  by_cases g : left k = true
  · have : ¬ d k < 0 := fun g2 => h ⟨g,g2⟩
    simp [this]
  · simp [g]
 simp [blkV,List.range_succ,List.filter_append,this]
theorem mem_blkV {left : Nat → Bool} {d : Nat → Int} {rank : Int} {k : Nat} {r : Rm} : r ∈ blkV left d rank k ↔ ∃ i : Nat,i < k ∧ left i = true ∧ d i < 0 ∧ r = ⟨i,rank,3,-1⟩ := by
 unfold blkV
 simp only [List.mem_map,List.mem_filter,List.mem_range,Bool.and_eq_true,decide_eq_true_eq]
 constructor
 · rintro ⟨i,⟨h1,h2,h3⟩,rfl⟩; exact ⟨i,h1,h2,h3,rfl⟩
 · rintro ⟨i,h1,h2,h3,rfl⟩; exact ⟨i,⟨h1,h2,h3⟩,rfl⟩
structure RS (au : Au) (forb unc : List Int) (n : Nat) (rank : Int) (left : Nat → Bool) (R : List Rm) : Prop where
 r : ∀ q,q ∈ R → (0 ≤ q.st ∧ q.st < (n : Int)) ∧ 1 ≤ q.rank ∧ q.rank < rank
 nd : (R.map Rm.st).Nodup
 mem : ∀ i : Nat,i < n → (left i = false ↔ ∃ q,q ∈ R ∧ q.st = (i : Int))
 ok : ∀ q,q ∈ R → removesP forb unc au.mr R (outOf au.ed q.st.toNat) q
 fb : ∀ x,x ∈ forb → left x.toNat = false
section
variable {au : Au} {forb unc : List Int} {n : Nat} {rank : Int} {left : Nat → Bool} {R l : List Rm} {d : Nat → Int}
theorem RS.start (hf : ∀ x,x ∈ forb → 0 ≤ x ∧ x < (n : Int)) (hn : forb.Nodup) : RS au forb unc n 2 (fun i => !decide ((i : Int) ∈ forb)) (forb.map fun x => ⟨x,1,1,-1⟩) := by
 refine ⟨fun q hq => ?_,?_,fun i hi => ?_,fun q hq => ?_,fun x hx => ?_⟩
 · obtain ⟨x,hx,rfl⟩ := List.mem_map.1 hq
   exact ⟨hf x hx,by show (1 : Int) ≤ 1; omega,by show (1 : Int) < 2; omega⟩
 · rw [List.map_map]
   have : (Rm.st ∘ fun x : Int => (⟨x,1,1,-1⟩ : Rm)) = id := rfl
   rw [this,List.map_id]; exact hn
 · simp only [Bool.not_eq_false',decide_eq_true_eq]
   constructor
   · exact fun h => ⟨_,List.mem_map.2 ⟨_,h,rfl⟩,rfl⟩
   · rintro ⟨q,hq,e⟩
     obtain ⟨x,hx,rfl⟩ := List.mem_map.1 hq
     rw [← e]; exact hx
 · obtain ⟨x,hx,rfl⟩ := List.mem_map.1 hq
   exact .inl ⟨rfl,rfl,hx⟩
 · have := hf x hx
   simp only [Bool.not_eq_false',decide_eq_true_eq,Int.toNat_of_nonneg this.1]
   exact hx
theorem RS.step (h : RS au forb unc n rank left R) (hr1 : 1 ≤ rank) (hl : ∀ q,q ∈ l → (0 ≤ q.st ∧ q.st < (n : Int)) ∧ left q.st.toNat = true ∧ q.rank = rank ∧ removesP forb unc au.mr (R ++ l) (outOf au.ed q.st.toNat) q) (hn : (l.map Rm.st).Nodup)
 {left' : Nat → Bool} (hl' : ∀ i,i < n → left' i = (left i && !decide ((i : Int) ∈ l.map Rm.st))) (hfb : ∀ x,x ∈ forb → x.toNat < n) : RS au forb unc n (rank + 1) left' (R ++ l) := by
 refine ⟨fun q hq => ?_,?_,fun i hi => ?_,fun q hq => ?_,fun x hx => ?_⟩
 · rcases List.mem_append.1 hq with hq | hq
   · have := h.r q hq; exact ⟨this.1,this.2.1,by omega⟩
   · have := hl q hq; exact ⟨this.1,by omega,by omega⟩
 · rw [List.map_append,List.nodup_append]
   refine ⟨h.nd,hn,fun a ha b hb e => ?_⟩
   subst e
   obtain ⟨p,hp,rfl⟩ := List.mem_map.1 ha
   obtain ⟨q,hq,e⟩ := List.mem_map.1 hb
   have h1 := hl q hq
   have h0 := h1.1
   have h2 := (h.mem q.st.toNat (by omega)).2 ⟨p,hp,by omega⟩
   rw [h1.2.1] at h2; cases h2
 · rw [hl' i hi]
   constructor
   · intro g
     rw [Bool.and_eq_false_iff] at g
     rcases g with g | g
     · obtain ⟨q,hq,e⟩ := (h.mem i hi).1 g
       exact ⟨q,List.mem_append_left _ hq,e⟩
     · simp only [Bool.not_eq_false',decide_eq_true_eq] at g
       obtain ⟨q,hq,e⟩ := List.mem_map.1 g
       exact ⟨q,List.mem_append_right _ hq,e⟩
   · rintro ⟨q,hq,e⟩
     rw [Bool.and_eq_false_iff]
     rcases List.mem_append.1 hq with hq | hq
     · exact .inl ((h.mem i hi).2 ⟨q,hq,e⟩)
     · refine .inr ?_
       simp only [Bool.not_eq_false',decide_eq_true_eq]
       exact List.mem_map.2 ⟨q,hq,e⟩
 · rcases List.mem_append.1 hq with hq | hq
   · exact (h.ok q hq).sub fun x hx => List.mem_append_left _ hx
   · exact (hl q hq).2.2.2
 · rw [hl' _ (hfb x hx),h.fb x hx]; rfl
theorem RS.lost (h : RS au forb unc n rank left R) (ha : au.Right) (hn : au.n = n) (hl : LostI unc left rank au.ed au.ed.length l) : ∀ q,q ∈ l → (0 ≤ q.st ∧ q.st < (n : Int)) ∧ left q.st.toNat = true ∧ q.rank = rank ∧ removesP forb unc au.mr (R ++ l) (outOf au.ed q.st.toNat) q := fun q hq => by
 obtain ⟨x,h1,rfl,h2,h3,h4⟩ := hl.a q hq
 rw [List.take_length] at h1
 obtain ⟨k,hk,hkx⟩ := List.mem_iff_getElem.1 h1
 have he := ha.ed k hk x (by rw [← hkx]; exact List.getElem?_eq_getElem hk)
 refine ⟨⟨he.1,by show x.src < (n : Int); have := he.2.1; omega⟩,h2,rfl,.inr (.inl ⟨rfl,h4,x,mem_outOf.2 ⟨h1,by show x.src = _; rw [Int.toNat_of_nonneg he.1]⟩,rfl,?_⟩)⟩
 obtain ⟨p,hp,e⟩ := (h.mem x.dst.toNat (by have := he.2.2.2.1; have := he.2.2.1; omega)).1 h3
 exact ⟨p,List.mem_append_left _ hp,by rw [e,Int.toNat_of_nonneg he.2.2.1],(h.r p hp).2.2⟩
theorem RS.blocked (h : RS au forb unc n rank left R) (ha : au.Right) (hn : au.n = n) (hd : DstOk n au.mr au.ed left d) : ∀ q,q ∈ blkV left d rank n → (0 ≤ q.st ∧ q.st < (n : Int)) ∧ left q.st.toNat = true ∧ q.rank = rank ∧ removesP forb unc au.mr (R ++ blkV left d rank n) (outOf au.ed q.st.toNat) q := fun q hq => by
 obtain ⟨i,hi,h1,h2,rfl⟩ := mem_blkV.1 hq
 refine ⟨⟨by show (0 : Int) ≤ i; omega,by show (i : Int) < n; omega⟩,h1,rfl,.inr (.inr ⟨rfl,rfl,fun g => ?_,?_⟩)⟩
 · have := hd.m i hi h1 g; omega
 · rintro ⟨x,hx,g1,g2⟩
   have hm := mem_outOf.1 hx
   obtain ⟨k,hk,hkx⟩ := List.mem_iff_getElem.1 hm.1
   have he := ha.ed k hk x (by rw [← hkx]; exact List.getElem?_eq_getElem hk)
   have hdn : x.dst.toNat < n := by have := he.2.2.2.1; have := he.2.2.1; omega
   have hsrc : x.src.toNat = i := by have := hm.2; simp only [Int.toNat_natCast] at this; omega
   cases hl : left x.dst.toNat with
   | false =>
     obtain ⟨p,hp,e⟩ := (h.mem x.dst.toNat hdn).1 hl
     exact g1 ⟨p,List.mem_append_left _ hp,by rw [e,Int.toNat_of_nonneg he.2.2.1],(h.r p hp).2.2⟩
   | true =>
     by_cases hdd : d x.dst.toNat < 0
     · exact g2 ⟨⟨x.dst.toNat,rank,3,-1⟩,List.mem_append_right _ (mem_blkV.2 ⟨_,hdn,hl,hdd,rfl⟩),by show ((x.dst.toNat : Nat) : Int) = _; rw [Int.toNat_of_nonneg he.2.2.1],rfl,rfl⟩
     · have := hd.c x hm.1 (by rw [hsrc]; exact h1) (by omega)
       rw [hsrc] at this; omega
theorem blkV_nd (left : Nat → Bool) (d : Nat → Int) (rank : Int) (k : Nat) : ((blkV left d rank k).map Rm.st).Nodup := by
 unfold blkV
 rw [List.map_map,List.nodup_iff_pairwise_ne,List.pairwise_map]
 refine ((List.nodup_iff_pairwise_ne.1 List.nodup_range).filter _).imp fun {a b} hab e => hab ?_
 simp only [Function.comp] at e
 omega
theorem LostI.nd {k : Nat} {ed : List Ed} {out : List Rm} (h : LostI unc left rank ed k out) : (out.map Rm.st).Nodup := by
 rw [List.nodup_iff_pairwise_ne,List.pairwise_map]
 exact (rsp h.up).imp fun {a b} hab e => by omega
def dstV (left : Nat → Bool) (d : Nat → Int) (k : Nat) : List Int := ((List.range k).filter left).map d
theorem dstV_len (left : Nat → Bool) (d : Nat → Int) (k : Nat) : (dstV left d k).length = (mkV left k).length := by simp [dstV,mkV]
theorem dstV_get {left : Nat → Bool} {d : Nat → Int} {n k : Nat} {i e : Int} (h1 : (mkV left n)[k]? = some i) (h2 : (dstV left d n)[k]? = some e) : ∃ t : Nat,i = t ∧ t < n ∧ left t = true ∧ e = d t := by
 unfold mkV at h1
 unfold dstV at h2
 rw [List.getElem?_map,Option.map_eq_some_iff] at h1 h2
 obtain ⟨t,ht,rfl⟩ := h1
 obtain ⟨t',ht',rfl⟩ := h2
 rw [ht] at ht'; cases ht'
 have := List.mem_of_getElem? ht
 rw [List.mem_filter,List.mem_range] at this
 exact ⟨t,rfl,this.1,this.2,rfl⟩
theorem RS.kept (h : RS au forb unc n rank left R) (hp : PrRight au forb unc) (hn : au.n = n) (hl : LostI unc left rank au.ed au.ed.length []) (hd : DstOk n au.mr au.ed left d) (hb : blkV left d rank n = []) {S : List Rm} (hs : S.Perm R) (hso : S.Pairwise fun p q => p.st ≤ q.st) :
 KeptOk au forb unc (mkV left n) (dstV left d n) S := by
 have hin : ∀ x,x ∈ S ↔ x ∈ R := fun x => hs.mem_iff
 have hsn : (S.map Rm.st).Nodup := (hs.map Rm.st).nodup_iff.2 h.nd
 have hst : S.Pairwise fun p q => p.st < q.st := by
  rw [List.nodup_iff_pairwise_ne,List.pairwise_map] at hsn
  exact (hso.and hsn).imp fun {a b} ⟨g1,g2⟩ => by omega
 have hfbn : ∀ x,x ∈ forb → x.toNat < n := fun x hx => by have := hp.hf.rgV hx; omega
 have hnb : ∀ i,i < n → left i = true → 0 ≤ d i := fun i hi hli => by
  by_cases g : d i < 0
  · have : (⟨i,rank,3,-1⟩ : Rm) ∈ blkV left d rank n := mem_blkV.2 ⟨i,hi,hli,g,rfl⟩
    rw [hb] at this; cases this
  · omega
 have hkm : ∀ i : Nat,i < n → ((i : Int) ∈ mkV left n ↔ left i = true) := fun i hi => by
  rw [mkV_memV]
  exact ⟨fun ⟨s,e,_,h2⟩ => (show s = i by omega) ▸ h2,fun g => ⟨i,rfl,hi,g⟩⟩
 have hr : ∀ x,x ∈ au.ed → (0 ≤ x.src ∧ x.src < (n : Int)) ∧ 0 ≤ x.dst ∧ x.dst < (n : Int) := fun x hx => by
  obtain ⟨k,hk,hkx⟩ := List.mem_iff_getElem.1 hx
  have he := hp.ha.ed k hk x (by rw [← hkx]; exact List.getElem?_eq_getElem hk)
  rw [hn] at he
  exact ⟨⟨he.1,he.2.1⟩,he.2.2.1,he.2.2.2.1⟩
 refine ⟨hp,dstV_len _ _ _,⟨?_,?_,fun j hj r hrj => ?_⟩,fun k i e hk he => ?_,fun r hrm => ?_⟩
 · have := mkV_ok left n
   rw [hn]; exact this
 · rw [hn,Int.toNat_natCast]
   have h1 : ((mkV left n) ++ S.map Rm.st).Nodup := by
    rw [List.nodup_append]
    refine ⟨?_,hsn,fun a ha b hb2 e => ?_⟩
    · exact List.nodup_iff_pairwise_ne.2 ((rsp (mkV_ok left n).incr).imp fun {a b} hab e => by omega)
    · subst e
      obtain ⟨i,rfl,hi,g⟩ := mkV_memV.1 ha
      obtain ⟨q,hq,e⟩ := List.mem_map.1 hb2
      have := (h.mem i hi).2 ⟨q,(hin q).1 hq,e⟩
      rw [g] at this; cases this
   have h2 := nodup_len n _ h1 fun x hx => by
    rcases List.mem_append.1 hx with hx | hx
    · obtain ⟨i,rfl,hi,_⟩ := mkV_memV.1 hx; omega
    · obtain ⟨q,hq,rfl⟩ := List.mem_map.1 hx
      exact (h.r q ((hin q).1 hq)).1
   have h3 := sub_len (List.range n) (((mkV left n) ++ S.map Rm.st).map Int.toNat) List.nodup_range fun i hi => by
    have hi := List.mem_range.1 hi
    refine List.mem_map.2 ⟨(i : Int),?_,rfl⟩
    cases hl' : left i with
    | true => exact List.mem_append_left _ ((hkm i hi).2 hl')
    | false =>
      obtain ⟨q,hq,e⟩ := (h.mem i hi).1 hl'
      exact List.mem_append_right _ (List.mem_map.2 ⟨q,(hin q).2 hq,e⟩)
   rw [List.length_map] at h3
   rw [List.length_append,List.length_map] at h2 h3
   rw [List.length_range] at h3
   omega
 · have hm := (hin r).1 (List.mem_of_getElem? hrj)
   have h1 := h.r r hm
   refine ⟨h1.1.1,by rw [hn]; exact h1.1.2,fun g => ?_,h1.2.1,fun r' hj0 hr' => ?_⟩
   · obtain ⟨i,e,hi,g2⟩ := mkV_memV.1 g
     have := (h.mem i hi).2 ⟨r,hm,e⟩
     rw [g2] at this; cases this
   · exact (pwr hst) (j - 1) j r' r (by omega) hr' hrj
 · obtain ⟨t,rfl,ht,hlt,rfl⟩ := dstV_get hk he
   refine ⟨fun g => ?_,?_,fun g => hd.z t ht g,fun g => ?_⟩
   · have := h.fb _ g
     simp only [Int.toNat_natCast] at this
     rw [hlt] at this; cases this
   · rintro ⟨x,hx,h1,h2⟩
     have hm := mem_outOf.1 hx
     have hb2 := hr x hm.1
     have hsrc : x.src.toNat = t := by have := hm.2; simp only [Int.toNat_natCast] at this; omega
     have hld : left x.dst.toNat = false := by
      cases g : left x.dst.toNat with
      | false => rfl
      | true =>
        have := (hkm x.dst.toNat (by omega)).2 g
        rw [Int.toNat_of_nonneg hb2.2.1] at this
        exact absurd this h1
     obtain ⟨r,hr',_⟩ := hl.c x (by rw [List.take_length]; exact hm.1) ⟨by rw [hsrc]; exact hlt,hld,h2⟩
     cases hr'
   · have h0 := hnb t ht hlt
     refine ⟨by omega,?_⟩
     obtain ⟨x,h1,h2,h3,h4⟩ := hd.s t ht (by omega)
     have hb2 := hr x h1
     refine ⟨x,mem_outOf.2 ⟨h1,by simpa using h2⟩,?_⟩
     have hxk : x.dst ∈ mkV left n := by
      have := (hkm x.dst.toNat (by omega)).2 (hd.lf _ (by omega) h3)
      rwa [Int.toNat_of_nonneg hb2.2.1] at this
     obtain ⟨k',hk',hkx'⟩ := List.mem_iff_getElem.1 hxk
     have hk2 : k' < (dstV left d n).length := by rw [dstV_len]; exact hk'
     have e1 : (mkV left n)[k']? = some x.dst := by rw [← hkx']; exact List.getElem?_eq_getElem hk'
     obtain ⟨t',e2,ht',_,e3⟩ := dstV_get e1 (List.getElem?_eq_getElem hk2)
     refine ⟨k',_,e1,List.getElem?_eq_getElem hk2,?_⟩
     rw [e3]
     have : x.dst.toNat = t' := by omega
     rw [this] at h4; exact h4
 · exact (h.ok r ((hin r).1 hrm)).sub fun x hx => (hin x).2 hx
end
end
section

theorem count_set_true : ∀ (l : List Bool) (i : Nat),l[i]? = some false → (l.set i true).count false + 1 = l.count false
 | [],i,h => by simp at h
 | b :: l,0,h => by
   simp at h; subst h; simp
 | b :: l,i + 1,h => by
   have := count_set_true l i (by simpa using h)
   simp only [List.set_cons_succ,List.count_cons]
   omega
theorem getD_false_some {l : Array Bool} {i : Nat} (h : l.getD i true = false) : l.toList[i]? = some false := by
 rcases Nat.lt_or_ge i l.size with h' | h'
 · simp [h'] at h ⊢; exact h
 · simp [Array.getElem?_eq_none h'] at h

section
variable {P : Program} {ops : Array Oper} {Q : Exit → Act → World → Prop} {md : Region.Mode} {S : World → Prop} {INV : Array Bool → Act → World → Prop} {D : List (List Nat)}

def depsOk (md : Region.Mode) (ops : Array Oper) (D : List (List Nat)) : Bool :=
 (List.range ops.size).all fun i => ((ops[i]?).map fun o => (o.after.all fun e => !Region.binds md e || decide (e.on < i)) && ((D.getD i []).all fun d => o.after.any fun e => e.on == d && Region.binds md e)).getD false
theorem depsOk_at (h : depsOk md ops D = true) {i : Nat} {o : Oper} (ho : ops[i]? = some o) : (∀ e ∈ o.after,Region.binds md e = true → e.on < i) ∧ ∀ d ∈ D.getD i [],∃ e ∈ o.after,e.on = d ∧ Region.binds md e = true := by
 have hi : i < ops.size := (Array.getElem?_eq_some_iff.1 ho).1
 have h1 := List.all_eq_true.1 h i (List.mem_range.2 hi)
 rw [ho] at h1
 simp only [Option.map_some,Option.getD_some,Bool.and_eq_true] at h1
 refine ⟨fun e he hb => ?_,fun d hd => ?_⟩
 · have := Array.all_eq_true'.1 h1.1 e he
   simpa [hb] using this
 · have := List.all_eq_true.1 h1.2 d hd
   obtain ⟨e,he,h2⟩ := Array.any_eq_true'.1 this
   simp only [Bool.and_eq_true,beq_iff_eq] at h2
   exact ⟨e,he,h2⟩
theorem ready_none (h : depsOk md ops D = true) {l : Array Bool} (hr : Region.ready md ops l = []) : ∀ i,i < ops.size → l.getD i true = true := by
 intro i
 induction i using Nat.strongRecOn with
 | _ i ih =>
   intro hi
   obtain ⟨o,ho⟩ : ∃ o,ops[i]? = some o := ⟨_,Array.getElem?_eq_getElem hi⟩
   cases hl : l.getD i true
   · exfalso
     have : i ∈ Region.ready md ops l := mem_ready.2 ⟨hl,o,ho,fun e he hb => by
      have h1 := (depsOk_at h ho).1 e he hb
      have h2 := ih e.on h1 (by omega)
      have : e.on < l.size := by
       rcases Nat.lt_or_ge i l.size with h' | h'
       · omega
       · simp [Array.getElem?_eq_none h'] at hl
      have h3 : l.getD e.on true = l.getD e.on false := by simp [this]
      rw [← h3]; exact h2⟩
     rw [hr] at this
     cases this
   · rfl
def StepI (P : Program) (ops : Array Oper) (Q : Exit → Act → World → Prop) (INV : Array Bool → Act → World → Prop) (D : List (List Nat)) (i : Nat) : Prop :=
 ∀ l a w,INV l a w → l.getD i true = false → (∀ d,d ∈ D.getD i [] → l.getD d false = true) → wpOp P ops Q i (INV (l.setIfInBounds i true)) a w
def StepsI (P : Program) (ops : Array Oper) (Q : Exit → Act → World → Prop) (INV : Array Bool → Act → World → Prop) (D : List (List Nat)) (rs : List Nat) : Prop := ∀ i ∈ rs,StepI P ops Q INV D i
theorem StepsI.nil : StepsI P ops Q INV D [] := fun _ h => by cases h
theorem StepsI.cons {i : Nat} {o : Oper} {rs : List Nat} (ho : ops[i]? = some o)
 (h : ∀ l a w,INV l a w → l.getD i true = false → (∀ d,d ∈ D.getD i [] → l.getD d false = true) → ∀ K' : Act → World → Prop,Hid (∀ a w,INV (l.setIfInBounds i true) a w → K' a w) → if Region.wanted o (yielded ops a.tmps) = true then Oper.wp P o a w K' Q else K' (a.put o.dst undef) w)
 (hs : StepsI P ops Q INV D rs) : StepsI P ops Q INV D (i :: rs) := fun j hj => by
 rcases List.mem_cons.1 hj with rfl | hj
 · exact fun l a w hI hl hd => wpOp_step ho (fun K' hK => h l a w hI hl hd K' hK)
 · exact hs j hj
theorem wpAnyH_inv (rs : List Nat) (hd : depsOk md ops D = true) (hS : ∀ l a w,INV l a w → S w) (hrs : ∀ l a w,INV l a w → ((List.range ops.size).all fun i => rs.contains i || l.getD i true) = true)
 (hfin : ∀ l a w,INV l a w → (∀ i,i < ops.size → l.getD i true = true) → Q .normal a w) (hstep : StepsI P ops Q INV D rs) :
 ∀ (fuel : Nat) (l : Array Bool) (a : Act) (w : World),l.toList.count false ≤ fuel → INV l a w → wpAnyH P md ops Q S fuel l a w := by
 intro fuel
 induction fuel with
 | zero =>
   intro l a w hc hI
   have none_ : Region.ready md ops l = [] := by
    rw [List.eq_nil_iff_forall_not_mem]
    intro i hi
    have h1 := getD_false_some (mem_ready.1 hi).1
    have h2 := List.count_pos_iff.2 (List.mem_of_getElem? h1)
    omega
   exact ⟨none_,hfin l a w hI (ready_none hd none_)⟩
 | succ fuel ih =>
   intro l a w hc hI
   refine ⟨fun hr => hfin l a w hI (ready_none hd hr),fun i hi => ?_⟩
   obtain ⟨hl,o,ho,hall⟩ := mem_ready.1 hi
   have hilt : i < ops.size := (Array.getElem?_eq_some_iff.1 ho).1
   have hmem : i ∈ rs := by
    have := List.all_eq_true.1 (hrs l a w hI) i (List.mem_range.2 hilt)
    rw [hl,Bool.or_false] at this
    simpa using this
   refine wpOp_mono (fun a' w' h => ⟨hS _ _ _ h,ih _ a' w' ?_ h⟩) (hstep i hmem l a w hI hl fun d hdm => ?_)
   · have := count_set_true l.toList i (getD_false_some hl)
     rw [Array.toList_setIfInBounds]
     omega
   · obtain ⟨e,he,h1,h2⟩ := (depsOk_at hd ho).2 d hdm
     rw [← h1]; exact hall e he h2
end

theorem act_name {P : Program} {ops : Array Oper} {Q : Exit → Act → World → Prop} {md : Region.Mode} {S : World → Prop} {fuel : Nat} {l : Array Bool} {a : Act} {w : World} (h : ∀ A0,A0 = a → wpAnyH P md ops Q S fuel l A0 w) : wpAnyH P md ops Q S fuel l a w := h a rfl
def eNo : Ent where
 foot := []
 ok _ := True
 lt w h g hg := by cases hg
 turn w w' h hg := trivial
section
variable {n : Nat} {w0 w w' : World} {es : List Ent}
theorem Sep.no (S : Sep n w0 es w) : Sep n w0 (eNo :: es) w := S.new1 (Below.refl _ _) eNo trivial (by simp [eNo])
theorem Sep.fill (S : Sep n w0 es w) (i : Nat) (hi : es[i]? = some eNo) (hb : Below w.heap.size w w') (e : Ent) (he : e.ok w') (hf : ∀ g,g ∈ e.foot → w.heap.size ≤ g) : Sep n w0 (es.set i e) w' :=
 S.chg i hi e (Off.below hb _) he (fun g hg => .inr (hf g hg))
theorem Sep.fillAlloc (S : Sep n w0 es w) (i : Nat) (hi : es[i]? = some eNo) (T : TypeId) (cs : List Value) {o : Obj} (ho : o = .cells cs.toArray T) {g : Nat} (hg : g = w.heap.size) : Sep n w0 (es.set i (eBlk g T cs)) (w.alloc o) := by
 subst ho; subst hg
 exact S.fill i hi (Below.new w _) _ (BlkAt.new w T cs) (by simp [eBlk])
theorem Sep.fill1 (S : Sep n w0 es w) (i : Nat) (hi : es[i]? = some eNo) {e : Ent} (T : Sep w.heap.size w [e] w') : Sep n w0 (es.set i e) w' :=
 S.fill i hi T.fro.b e (T.ok e (by simp)) (fun g hg => T.ge e (by simp) g hg)
end
end
def eRwsG {α : Type} (enc : α → List Value) (k T : Nat) (f : Nat → List α) (vs : List Value) : Ent where
 foot := vs.flatMap fun v => v.ownBlock.toList
 ok w := (∀ (i : Nat) v,vs[i]? = some v → Own enc k T 0 (f i) v w) ∧ (∀ (i j : Nat) vi vj (g : Nat),i ≠ j → vs[i]? = some vi → vs[j]? = some vj → vi.ownBlock = some g → vj.ownBlock ≠ some g) ∧ ∀ (i : Nat) v,vs[i]? = some v → f i = [] → v = .slice none 0 0
 lt w h k hk := by
  obtain ⟨v,hv,hk⟩ := List.mem_flatMap.1 hk
  obtain ⟨i,hi,rfl⟩ := List.mem_iff_getElem.1 hv
  exact (Own.lt (h.1 i _ (List.getElem?_eq_getElem hi)) k (by simpa using hk)).2
 turn w w' h hg := by
  refine ⟨fun i v hv => ?_,h.2⟩
  exact (eOwn enc k T (f i) v).turn w w' (h.1 i v hv) fun g hgv => hg g (List.mem_flatMap.2 ⟨v,List.mem_of_getElem? hv,hgv⟩)
theorem Sep.rwsNil {α : Type} {enc : α → List Value} {k T : Nat} {w0 w : World} {n : Nat} {es : List Ent} (S : Sep n w0 es w) (N : Nat) (f : Nat → List α) (hf : ∀ i,f i = []) : Sep n w0 (eRwsG enc k T f (List.replicate N (.slice none 0 0)) :: es) w := by
 refine S.new1 (Below.refl _ _) _ ⟨fun i v hv => ?_,fun i j vi vj g _ hi hj hg => ?_,fun i v hv _ => List.eq_of_mem_replicate (List.mem_of_getElem? hv)⟩ fun g hg => ?_
 · obtain rfl := List.eq_of_mem_replicate (List.mem_of_getElem? hv)
   rw [hf i]; exact Own.nil w
 · obtain rfl := List.eq_of_mem_replicate (List.mem_of_getElem? hi)
   simp [Value.ownBlock] at hg
 · obtain ⟨v,hv,hk⟩ := List.mem_flatMap.1 hg
   obtain rfl := List.eq_of_mem_replicate hv
   simp [Value.ownBlock] at hk
theorem Off.moreG {f f' : List Nat} {w w' : World} (h : Off f w w') (hf : ∀ g,g ∈ f → g ∈ f') : Off f' w w' := ⟨h.os,h.tape,h.output,h.size,fun k hk hn => h.block k hk fun g => hn (hf k g)⟩
theorem Sep.rwsPush {α : Type} {enc : α → List Value} {k T : Nat} {w0 w w1 : World} {n : Nat} {es : List Ent} (S : Sep n w0 es w) (i : Nat) {vs : List Value} {f f' : Nat → List α} (hei : es[i]? = some (eRwsG enc k T f vs)) {s : Nat} {v v' : Value} (hv : vs[s]? = some v) {y : α} (hs' : f' s = f s ++ [y]) (hj' : ∀ j,j ≠ s → f' j = f j)
 (h' : w1.ownsRow 0 T k v' ((f s).length + 1) ((f s).flatMap enc ++ enc y)) (hg : w.grownBy w1 v.ownBlock) (hb : v'.ownBlock = v.ownBlock ∨ v'.ownBlock = some w.heap.size) : Sep n w0 (es.set i (eRwsG enc k T f' (vs.set s v'))) w1 := by
 obtain ⟨h3,h4,h5⟩ := S.get i hei
 have hs : s < vs.length := (List.getElem?_eq_some_iff.1 hv).1
 refine S.chg i hei _ ((Off.grown hg).moreG fun g hgv => List.mem_flatMap.2 ⟨v,List.mem_of_getElem? hv,hgv⟩) ⟨fun j u hu => ?_,fun a b va vb g hab ha hb' hga hgb => ?_,fun j u hu hn => ?_⟩ (fun g hgm => ?_)
 · by_cases e : j = s
   · subst e
     rw [List.getElem?_set_self hs] at hu
     cases hu
     rw [hs']
     unfold Own
     rw [List.flatMap_append,List.length_append]
     simpa using h'
   · rw [List.getElem?_set_ne (fun g => e g.symm)] at hu
     rw [hj' j e]
     refine World.ownsRow.kept (h3 j u hu) hg ?_
     cases hb2 : u.ownBlock with
     | none => exact .inl rfl
     | some g => exact .inr (fun g2 => h4 j s u v g e hu hv hb2 g2.symm)
 · have key : ∀ (j : Nat) (vj : Value),j ≠ s → vs[j]? = some vj → ∀ g,vj.ownBlock = some g → v'.ownBlock ≠ some g := fun j vj hj hvj g hg' hv' => by
    rcases hb with e | e
    · exact h4 j s vj v g hj hvj hv hg' (by rw [← e,hv'])
    · rw [e] at hv'; cases hv'
      have := (Own.lt (h3 j vj hvj) _ hg').2; omega
   by_cases ea : a = s
   · subst ea
     rw [List.getElem?_set_self hs] at ha
     cases ha
     rw [List.getElem?_set_ne hab] at hb'
     exact key b vb (fun h => hab h.symm) hb' g hgb hga
   · rw [List.getElem?_set_ne (fun h => ea h.symm)] at ha
     by_cases eb : b = s
     · subst eb
       rw [List.getElem?_set_self hs] at hb'
       cases hb'
       exact key a va ea ha g hga hgb
     · rw [List.getElem?_set_ne (fun h => eb h.symm)] at hb'
       exact h4 a b va vb g hab ha hb' hga hgb
 · by_cases e : j = s
   · subst e; rw [hs'] at hn; simp at hn
   · rw [List.getElem?_set_ne (fun g => e g.symm)] at hu
     rw [hj' j e] at hn
     exact h5 j u hu hn
 · obtain ⟨u,hu,hk⟩ := List.mem_flatMap.1 hgm
   rcases List.mem_or_eq_of_mem_set hu with h | rfl
   · exact .inl (List.mem_flatMap.2 ⟨u,h,hk⟩)
   · have hk2 : u.ownBlock = some g := by simpa using hk
     rcases hb with e | e
     · exact .inl (List.mem_flatMap.2 ⟨v,List.mem_of_getElem? hv,by rw [← e]; exact hk⟩)
     · rw [e] at hk2; cases hk2
       exact .inr (Nat.le_refl _)
theorem cell_add {w : World} {g : Nat} {T : TypeId} {cs : List Value} (h : (eBlk g T cs).ok w) (j : Nat) : w.cell? ((⟨g,0,none⟩ : Addr).add j) = cs[j]? := by
 have := BlkAt.cell h j
 unfold Addr.add
 split
 · rename_i h0; subst h0; exact this
 · simpa using this
def bkF (l : List Ed) (vs : List Value) (x : Int) : Option Value := if 0 ≤ x ∧ predsOf l x.toNat ≠ [] then vs[x.toNat]? else none
def veV (v : Value) : Value := v
theorem bkF_nil (vs : List Value) : bkF [] vs = fun _ => none := by
 funext x
 unfold bkF
 rw [if_neg]
 rintro ⟨_,h⟩
 exact h rfl
theorem bkF_push {l : List Ed} {vs : List Value} {x : Ed} {d : Nat} {v' : Value} (hx : x.dst = (d : Int)) (hd : d < vs.length) : (fun u : Int => if u = (d : Int) then some v' else bkF l vs u) = bkF (l ++ [x]) (vs.set d v') := by
 funext u
 unfold bkF
 by_cases e : u = (d : Int)
 · subst e
   rw [if_pos rfl,if_pos ⟨by omega,by rw [Int.toNat_natCast,predsOf_snoc,if_pos hx]; simp⟩,Int.toNat_natCast,List.getElem?_set_self hd]
 · rw [if_neg e]
   by_cases h0 : 0 ≤ u
   · have hne : u.toNat ≠ d := by omega
     have e2 : predsOf (l ++ [x]) u.toNat = predsOf l u.toNat := by rw [predsOf_snoc,if_neg (by omega)]
     rw [e2,List.getElem?_set_ne (fun h => hne h.symm)]
   · rw [if_neg (fun h => h0 h.1),if_neg (fun h => h0 h.1)]
theorem bkF_get {l : List Ed} {vs : List Value} {d : Nat} {v : Value} (hv : vs[d]? = some v) (hn : predsOf l d = [] → v = .slice none 0 0) : (bkF l vs (d : Int)).getD (.slice none 0 0) = v := by
 unfold bkF
 by_cases h : predsOf l d = []
 · rw [if_neg (by rw [Int.toNat_natCast]; exact fun g => g.2 h)]
   exact (hn h).symm
 · rw [if_pos ⟨by omega,by rw [Int.toNat_natCast]; exact h⟩,Int.toNat_natCast,hv]; rfl
theorem zeroL (w : World) : (zeroValue 36).run Try.prog w = .ok (veV (.slice none 0 0)) w := by kernel_rfl
structure SyP where
 pb : Nat
 mb : Nat
 lb : Nat
 vs : List Value
def sySt (a : Au) (p : AuP) (unc : List Int) (AU : Option Addr) (cU : Nat) (q : SyP) : List Value := [.slice p.A1 a.al.length p.c1,.int .i64 a.n,.slice p.A2 a.mr.length p.c2,.slice p.A3 a.ed.length p.c3,.slice AU unc.length cU,.map (some q.mb),.slice (some ⟨q.lb,0,none⟩) a.n.toNat a.n.toNat]
def GivesPb (a : Au) (p : AuP) (unc : List Int) (AU : Option Addr) (cU : Nat) (rem : List Int) (w : World) (e : Ending) (w' : World) : Prop := ∃ q : SyP,e = .returned (.pointer (some ⟨q.pb,0,none⟩)) ∧ Hid (q.vs.length = a.n.toNat) ∧ Hid (Sep w.heap.size w [eBlk q.pb 126 (sySt a p unc AU cU q),eBlk q.lb 4 (mkB a.n.toNat (fun t => !decide ((t : Int) ∈ rem))),eMap keyI veV q.mb (bkF a.ed q.vs),eRwsG encI 1 3 (predsOf a.ed) q.vs] w')
set_option maxHeartbeats 8000000 in
theorem startS_c (a : Au) (p : AuP) (unc rem : List Int) (AR : Option Addr) (cR : Nat) (AU : Option Addr) (cU : Nat) (w : World) (hr : a.Right) (hA : Au.At w a p) (hR : IntsAt w AR rem) (hrr : ∀ x,x ∈ rem → 0 ≤ x ∧ x < a.n) (hrl : rem.length ≤ 1000000) (hel : a.ed.length ≤ 1000000) :
 Calls Try.prog 50 #[a.val p,.slice AR rem.length cR,.slice AU unc.length cU] w (GivesPb a p unc AU cU rem w) := by
 have HA := Lib.hid hA
 have HR := Lib.hid hR
 have HRR := Lib.hid hrr
 have n0 := hr.n0
 have n1 := hr.n1
 have HDR : Hid (∀ x,x ∈ a.ed → 0 ≤ x.dst ∧ x.dst < a.n) := fun x hx => by
  obtain ⟨k,hk,hkx⟩ := List.mem_iff_getElem.1 hx
  have := hr.ed k hk x (by rw [← hkx]; exact List.getElem?_eq_getElem hk)
  exact ⟨this.2.2.1,this.2.2.2.1⟩
 obtain ⟨al,n,mr,ed⟩ := a
 obtain ⟨A1,c1,A2,c2,A3,c3⟩ := p
 dsimp only at n0 n1 hel HDR HRR ⊢
 obtain ⟨N,rfl⟩ := Int.eq_ofNat_of_zero_le n0
 clear hr hA hR hrr n0
 have hmk := make_run (P := Try.prog) 86 4 (.bool false) 1 Try.underlying86 boolInfo rfl N (by omega) (by omega)
 have hmm0 := @run_makeMap Try.prog
 go_enter Try.func50,Try.ntmps50
 obtain ⟨tb,htb⟩ : ∃ g,g = w.heap.size := ⟨_,rfl⟩
 go_upto_region 1 with fail
 rw [← htb]
 refine wp_world (fun W => Sep w.heap.size w [eBlk tb 39 [.slice A1 al.length c1,.int .i64 (N : Int),.slice A2 mr.length c2,.slice A3 ed.length c3]] W) ((Sep.here w).alloc' _ [_,_,_,_] rfl htb) fun W S => ?_
 have S0 := Lib.hid S
 clear S htb
 go_cut [7] (fun v7 wx => ∃ pb mb lb : Nat,v7 = .pointer (some ⟨pb,0,none⟩) ∧ Hid (Sep w.heap.size w [eBlk pb 126 [.slice A1 al.length c1,.int .i64 (N : Int),.slice A2 mr.length c2,.slice A3 ed.length c3,.slice AU unc.length cU,.map (some mb),.slice (some ⟨lb,0,none⟩) N N],eBlk lb 4 (mkB N (fun t => decide (t < 0))),eMap keyI veV mb (fun _ => none),eBlk tb 39 [.slice A1 al.length c1,.int .i64 (N : Int),.slice A2 mr.length c2,.slice A3 ed.length c3]] wx))
 case first =>
  have l1 := (S0.out.get 0 rfl).lt
  have t0 := BlkAt.cell (S0.out.get 0 rfl) 0; have t1 := BlkAt.cell (S0.out.get 0 rfl) 1; have t2 := BlkAt.cell (S0.out.get 0 rfl) 2; have t3 := BlkAt.cell (S0.out.get 0 rfl) 3; simp only [List.getElem?_cons_succ,List.getElem?_cons_zero] at t0 t1 t2 t3
  have hz : mkB N (fun t => decide (t < 0)) = List.replicate N (Value.bool false) := by rw [mkB_rep]; exact mkB_congr fun s _ => by simp
  have HZ := Lib.hid hz
  clear hz
  go_region
  all_goals
   try rw [show Array.replicate N (Value.bool false) = (List.replicate N (Value.bool false)).toArray from by simp]
   go_wp2_with fail
   go_meet
   rw [HZ.out]
   first
   | exact ⟨W.heap.size + 2,W.heap.size,W.heap.size + 1,rfl,(((((S0.out.allocMap keyI veV rfl).alloc' 4 (List.replicate N (.bool false)) (g := W.heap.size + 1) rfl (by simp)).alloc' 126 [_,_,_,_,_,_,_] (g := W.heap.size + 2) rfl (by simp)).pick [0,1,2,3] (by decide)).drew)⟩
   | exact ⟨W.heap.size + 2,W.heap.size + 1,W.heap.size,rfl,(((((S0.out.alloc' 4 (List.replicate N (.bool false)) rfl rfl).allocMap keyI veV (g := W.heap.size + 1) (by simp)).alloc' 126 [_,_,_,_,_,_,_] (g := W.heap.size + 2) rfl (by simp)).pick [0,2,1,3] (by decide)).drew)⟩
 case rest =>
  obtain ⟨pb,mb,lb,rfl,S⟩ := hcut
  clear S0 hmk hmm0
  have p6 := BlkAt.cell (S.out.get 0 rfl) 6; simp only [List.getElem?_cons_succ,List.getElem?_cons_zero] at p6
  go_wp2_with fail
  clear p6
  go_loopw [26] (fun i wr => ∃ k : Nat,k ≤ N ∧ i = .int .i64 (k : Int) ∧ Hid (Sep w.heap.size w [eBlk pb 126 [.slice A1 al.length c1,.int .i64 (N : Int),.slice A2 mr.length c2,.slice A3 ed.length c3,.slice AU unc.length cU,.map (some mb),.slice (some ⟨lb,0,none⟩) N N],eBlk lb 4 (mkB N (fun t => decide (t < k))),eMap keyI veV mb (fun _ => none),eBlk tb 39 [.slice A1 al.length c1,.int .i64 (N : Int),.slice A2 mr.length c2,.slice A3 ed.length c3]] wr)) (fun i _ => N - (intOf i).toNat)
  case atStart => exact ⟨0,by omega,rfl,S.out⟩
  case round =>
   clear S
   obtain ⟨k,hk,rfl,S⟩ := hrel
   by_cases hlt : k < N
   · have p6 := BlkAt.cell (S.out.get 0 rfl) 6; simp only [List.getElem?_cons_succ,List.getElem?_cons_zero] at p6
     have gf := BlkAt.free (S.out.get 1 rfl) k
     have gc := (BlkAt.cell (S.out.get 1 rfl) k).trans (mkB_get hlt)
     have S2 : Hid (Sep w.heap.size w [eBlk pb 126 [.slice A1 al.length c1,.int .i64 (N : Int),.slice A2 mr.length c2,.slice A3 ed.length c3,.slice AU unc.length cU,.map (some mb),.slice (some ⟨lb,0,none⟩) N N],eBlk lb 4 (mkB N (fun t => decide (t < k + 1))),eMap keyI veV mb (fun _ => none),eBlk tb 39 [.slice A1 al.length c1,.int .i64 (N : Int),.slice A2 mr.length c2,.slice A3 ed.length c3]] (wr.setCell ⟨lb,k,none⟩ (.bool true))) := by
      have h := S.out.set 1 rfl k (.bool true)
      rw [mkB_set] at h
      have e : (mkB N fun t => decide (t = k) || decide (t < k)) = mkB N fun t => decide (t < k + 1) := mkB_congr fun t _ => by
       rw [Bool.eq_iff_iff]
       simp only [Bool.or_eq_true,decide_eq_true_eq]
       omega
      rw [e] at h
      exact h
     clear S
     go_wp2_with fail
     go_roundw
     case rel => exact ⟨k + 1,by omega,by go_num,S2.out⟩
     case measure => simp [intOf]; omega
   · obtain rfl : k = N := by omega
     have S1 : Hid (Sep w.heap.size w [eBlk pb 126 [.slice A1 al.length c1,.int .i64 (k : Int),.slice A2 mr.length c2,.slice A3 ed.length c3,.slice AU unc.length cU,.map (some mb),.slice (some ⟨lb,0,none⟩) k k],eBlk lb 4 (mkB k (fun t => !decide ((t : Int) ∈ rem.take 0))),eMap keyI veV mb (fun _ => none),eBlk tb 39 [.slice A1 al.length c1,.int .i64 (k : Int),.slice A2 mr.length c2,.slice A3 ed.length c3]] wr) := by
      have h := S.out
      rw [show (mkB k fun t => decide (t < k)) = mkB k fun t => !decide ((t : Int) ∈ rem.take 0) from mkB_congr fun t ht => by simp [ht]] at h
      exact h
     clear S
     obtain ⟨N,hN⟩ : ∃ N,N = k := ⟨_,rfl⟩
     subst hN
     go_wp2_with fail
     go_loopw [38] (fun i wr => ∃ k : Nat,k ≤ rem.length ∧ i = .int .i64 (k : Int) ∧ Hid (Sep w.heap.size w [eBlk pb 126 [.slice A1 al.length c1,.int .i64 (N : Int),.slice A2 mr.length c2,.slice A3 ed.length c3,.slice AU unc.length cU,.map (some mb),.slice (some ⟨lb,0,none⟩) N N],eBlk lb 4 (mkB N (fun t => !decide ((t : Int) ∈ rem.take k))),eMap keyI veV mb (fun _ => none),eBlk tb 39 [.slice A1 al.length c1,.int .i64 (N : Int),.slice A2 mr.length c2,.slice A3 ed.length c3]] wr)) (fun i _ => rem.length - (intOf i).toNat)
     case atStart => exact ⟨0,by omega,rfl,S1.out⟩
     case round =>
      clear S1 hk hlt
      obtain ⟨k,hk,rfl,S⟩ := hrel
      by_cases hlt : k < rem.length
      · obtain ⟨b,off,x0,rfl,hb,hx,cx⟩ := IntsAt.at (HR.out.below IntE.stays S.out.below) hlt
        have hxr := HRR.out x0 (List.mem_of_getElem? hx)
        obtain ⟨x,rfl⟩ := Int.eq_ofNat_of_zero_le hxr.1
        have hxN : x < N := by omega
        have p6 := BlkAt.cell (S.out.get 0 rfl) 6; simp only [List.getElem?_cons_succ,List.getElem?_cons_zero] at p6
        have gf := BlkAt.free (S.out.get 1 rfl) x
        have gc := (BlkAt.cell (S.out.get 1 rfl) x).trans (mkB_get hxN)
        have S2 : Hid (Sep w.heap.size w [eBlk pb 126 [.slice A1 al.length c1,.int .i64 (N : Int),.slice A2 mr.length c2,.slice A3 ed.length c3,.slice AU unc.length cU,.map (some mb),.slice (some ⟨lb,0,none⟩) N N],eBlk lb 4 (mkB N (fun t => !decide ((t : Int) ∈ rem.take (k + 1)))),eMap keyI veV mb (fun _ => none),eBlk tb 39 [.slice A1 al.length c1,.int .i64 (N : Int),.slice A2 mr.length c2,.slice A3 ed.length c3]] (wr.setCell ⟨lb,x,none⟩ (.bool false))) := by
         have h := S.out.set 1 rfl x (.bool false)
         rw [mkB_clear] at h
         have e : (mkB N fun t => !decide (t = x) && !decide ((t : Int) ∈ rem.take k)) = mkB N fun t => !decide ((t : Int) ∈ rem.take (k + 1)) := mkB_congr fun t _ => by
          rw [List.take_add_one,hx]
          by_cases g : t = x
          · subst g; simp
          · have : ¬ (t : Int) = (x : Int) := by omega
            simp [g,this]
         rw [e] at h
         exact h
        clear S hx hb hxr
        go_wp2_with fail
        go_roundw
        case rel => exact ⟨k + 1,by omega,by go_num,S2.out⟩
        case measure => simp [intOf]; omega
      · obtain rfl : k = rem.length := by omega
        have S1 : Hid (Sep w.heap.size w [eBlk pb 126 [.slice A1 al.length c1,.int .i64 (N : Int),.slice A2 mr.length c2,.slice A3 ed.length c3,.slice AU unc.length cU,.map (some mb),.slice (some ⟨lb,0,none⟩) N N],eBlk lb 4 (mkB N (fun t => !decide ((t : Int) ∈ rem))),eMap keyI veV mb (bkF (ed.take 0) (List.replicate N (.slice none 0 0))),eRwsG encI 1 3 (predsOf (ed.take 0)) (List.replicate N (.slice none 0 0)),eBlk tb 39 [.slice A1 al.length c1,.int .i64 (N : Int),.slice A2 mr.length c2,.slice A3 ed.length c3]] wr) := by
         have h := (S.out.rwsNil (enc := encI) (k := 1) (T := 3) N (predsOf (ed.take 0)) (fun i => rfl)).pick [1,2,3,0,4] (by decide)
         rw [List.take_length,← bkF_nil (List.replicate N (.slice none 0 0))] at h
         exact h
        clear S
        have t3 := BlkAt.cell (S1.out.get 4 rfl) 3; simp only [List.getElem?_cons_succ,List.getElem?_cons_zero] at t3
        go_wp2_with fail
        clear t3
        go_loopw [52] (fun i wr => ∃ (k : Nat) (vs : List Value),k ≤ ed.length ∧ i = .int .i64 (k : Int) ∧ Hid (vs.length = N) ∧ Hid (Sep w.heap.size w [eBlk pb 126 [.slice A1 al.length c1,.int .i64 (N : Int),.slice A2 mr.length c2,.slice A3 ed.length c3,.slice AU unc.length cU,.map (some mb),.slice (some ⟨lb,0,none⟩) N N],eBlk lb 4 (mkB N (fun t => !decide ((t : Int) ∈ rem))),eMap keyI veV mb (bkF (ed.take k) vs),eRwsG encI 1 3 (predsOf (ed.take k)) vs,eBlk tb 39 [.slice A1 al.length c1,.int .i64 (N : Int),.slice A2 mr.length c2,.slice A3 ed.length c3]] wr)) (fun i _ => ed.length - (intOf i).toNat)
        case atStart => exact ⟨0,_,by omega,rfl,by simp [Hid],S1.out⟩
        case round =>
         clear S1
         obtain ⟨k,vs,hk,rfl,HVL,S⟩ := hrel
         by_cases hlt : k < ed.length
         · obtain ⟨b,off,x,hA3,hb,hx,e0,e1,e2⟩ := EdsAt.at (HA.out.below S.out.below).ed hlt
           have hs := HDR.out x (List.mem_of_getElem? hx)
           obtain ⟨src,ev,dst⟩ := x
           dsimp only at hs
           obtain ⟨d,rfl⟩ := Int.eq_ofNat_of_zero_le hs.1
           have hsn : d < N := by have := hs.2; omega
           have HX := Lib.hid hx
           clear hs hx
           dsimp only at hA3
           subst hA3
           dsimp only at e0 e1 e2
           have hsl : d < vs.length := by rw [HVL.out]; exact hsn
           obtain ⟨v,hv⟩ : ∃ v,v = vs[d] := ⟨_,rfl⟩
           have HVS : Hid (vs[d]? = some v) := by rw [Hid,hv]; exact List.getElem?_eq_getElem hsl
           clear hv
           have HGD : Hid ((bkF (ed.take k) vs (d : Int)).getD (.slice none 0 0) = v) := bkF_get HVS.out ((S.out.get 3 rfl).2.2 d v HVS.out)
           have HPU : Hid (∀ v' : Value,(fun u : Int => if u = (d : Int) then some v' else bkF (ed.take k) vs u) = bkF (ed.take k ++ [⟨src,ev,(d : Int)⟩]) (vs.set d v')) := fun v' => bkF_push rfl hsl
           have hlen : (predsOf (ed.take k) d).length ≤ k := by
            unfold predsOf
            rw [List.length_map]
            exact Nat.le_trans (List.length_filter_le _ _) (List.length_take_le _ _)
           obtain ⟨xb,hxb⟩ : ∃ g,g = wr.heap.size := ⟨_,rfl⟩
           go_upto_region 15 with fail
           rw [← hxb]
           refine wp_world (fun V => Sep w.heap.size w [eBlk xb 68 [.int .i64 src,.int .i64 ev,.int .i64 (d : Int)],eBlk pb 126 [.slice A1 al.length c1,.int .i64 (N : Int),.slice A2 mr.length c2,.slice (some ⟨b,off,none⟩) ed.length c3,.slice AU unc.length cU,.map (some mb),.slice (some ⟨lb,0,none⟩) N N],eBlk lb 4 (mkB N (fun t => !decide ((t : Int) ∈ rem))),eMap keyI veV mb (bkF (ed.take k) vs),eRwsG encI 1 3 (predsOf (ed.take k)) vs,eBlk tb 39 [.slice A1 al.length c1,.int .i64 (N : Int),.slice A2 mr.length c2,.slice (some ⟨b,off,none⟩) ed.length c3]] V) (S.out.alloc' _ [_,_,_] rfl hxb) fun V S' => ?_
           have S2 := Lib.hid S'
           clear S S' hxb e0 e1 e2
           have S1 := Lib.hid S2.out.drew
           refine wp_region_held_drew (S := (fun V => Sep w.heap.size w [eBlk xb 68 [.int .i64 src,.int .i64 ev,.int .i64 (d : Int)],eBlk pb 126 [.slice A1 al.length c1,.int .i64 (N : Int),.slice A2 mr.length c2,.slice (some ⟨b,off,none⟩) ed.length c3,.slice AU unc.length cU,.map (some mb),.slice (some ⟨lb,0,none⟩) N N]] V)) (by kernel_rfl) ?_ (fun hHeld => ?_)
           · exact S1.out.pick [0,1] (by decide)
           generalize hwz : V.drew = w1 at *
           clear hwz
           refine tkP 0 rfl hHeld ?_
           try simp only [sx]
           refine tkP 1 rfl hHeld ?_
           try simp only [sx]
           refine tkP 2 rfl hHeld ?_
           try simp only [sx]
           refine tkH 3 rfl (v := ?_) (by kernel_rfl) ?_ hHeld ?_
           rotate_left
           · intro V hSw
             have o5 := qkC hSw 1 rfl 5 rfl
             clear hSw
             first | (go_simp; done) | (go_simp; with_reducible rfl)
           try simp only [sx]
           refine tkP 4 rfl hHeld ?_
           try simp only [sx]
           refine tkH 5 rfl (v := ?_) (by kernel_rfl) ?_ hHeld ?_
           rotate_left
           · intro V hSw
             have x2 := qkC hSw 0 rfl 2 rfl
             clear hSw
             first | (go_simp; done) | (go_simp; with_reducible rfl)
           try simp only [sx]
           refine tkP 6 rfl hHeld ?_
           try simp only [sx]
           refine tkP 7 rfl hHeld ?_
           try simp only [sx]
           refine tkP 8 rfl hHeld ?_
           try simp only [sx]
           refine tkH 9 rfl (v := ?_) (by kernel_rfl) ?_ hHeld ?_
           rotate_left
           · intro V hSw
             have o5 := qkC hSw 1 rfl 5 rfl
             clear hSw
             first | (go_simp; done) | (go_simp; with_reducible rfl)
           try simp only [sx]
           refine tkP 10 rfl hHeld ?_
           try simp only [sx]
           refine tkH 11 rfl (v := ?_) (by kernel_rfl) ?_ hHeld ?_
           rotate_left
           · intro V hSw
             have x2 := qkC hSw 0 rfl 2 rfl
             clear hSw
             first | (go_simp; done) | (go_simp; with_reducible rfl)
           try simp only [sx]
           refine tkP 13 rfl hHeld ?_
           try simp only [sx]
           refine tkH 14 rfl (v := ?_) (by kernel_rfl) ?_ hHeld ?_
           rotate_left
           · intro V hSw
             have x0 := qkC hSw 0 rfl 0 rfl
             clear hSw
             first | (go_simp; done) | (go_simp; with_reducible rfl)
           try simp only [sx]
           refine wpAnyH_ready (rs := [12,15]) (by kernel_rfl) (by simp) ?_
           refine AllReadyH.cons rfl (fun K hK => ?_) (AllReadyH.cons rfl (fun K hK => ?_) AllReadyH.nil)
           · skip
             have hlk := (MapG.look okI Try.underlying124 zeroL (S1.out.get 3 rfl) (d : Int)).2
             rw [HGD.out] at hlk
             simp only [keyI,veV] at hlk
             go_simp
             refine hK.out _ _ ?_ (fun hHeld => ?_)
             · exact S1.out.pick [0,1] (by decide)
             clear hK K
             try simp only [sx]
             refine rdH 15 rfl fun K hK => ?_
             go_simp
             obtain ⟨nnw,hnnw⟩ : ∃ n,n = w1.heap.size := ⟨_,rfl⟩
             obtain ⟨w2,hw2⟩ : ∃ v,v = w1.alloc (.cells #[.int .i64 src] 3) := ⟨_,rfl⟩
             rw [← hw2,← hnnw]
             have S2 := qkA S1.out hw2 hnnw
             skip
             clear hw2 hnnw
             refine hK.out _ _ ?_ (fun hHeld => ?_)
             · exact S2.out.pick [1,2] (by decide)
             clear hK K
             try simp only [sx]
             refine rdH 16 rfl fun K hK => ?_
             refine step_append_at rfl (.tmp 68) (.tmp 71) 36 rfl 0 3 _ 1 8 Try.underlying36 intInfo rfl (by decide) v _ _ rfl ((S2.out.get 5 rfl).1 d v HVS.out) ⟨nnw,0,none⟩ 1 1 (encI src) rfl rfl (fun j u hj => (cell_add (S2.out.get 0 rfl) j).trans hj) (encI_one _) (by simp only [maxLen]; omega) (by omega) (Nat.zero_le _) ?_
             intro A1' c1' w3 ho hg hb'
             have S3' := S2.out.rwsPush 5 rfl HVS.out (f' := predsOf (ed.take k ++ [⟨src,ev,(d : Int)⟩])) (y := src) (by rw [predsOf_snoc,if_pos rfl]) (fun j hj => by rw [predsOf_snoc,if_neg (fun e => hj (by have e : (d : Int) = (j : Int) := e; omega))]) ho hg hb'
             clear ho hg hb'
             have S3 : Hid (Sep w.heap.size w [eBlk nnw 3 [.int .i64 src],eBlk xb 68 [.int .i64 src,.int .i64 ev,.int .i64 (d : Int)],eBlk pb 126 [.slice A1 al.length c1,.int .i64 (N : Int),.slice A2 mr.length c2,.slice (some ⟨b,off,none⟩) ed.length c3,.slice AU unc.length cU,.map (some mb),.slice (some ⟨lb,0,none⟩) N N],eBlk lb 4 (mkB N (fun t => !decide ((t : Int) ∈ rem))),eMap keyI veV mb (bkF (ed.take k) vs),eRwsG encI 1 3 (predsOf (ed.take k ++ [⟨src,ev,(d : Int)⟩])) (vs.set d (.slice A1' ((predsOf (ed.take k) d).length + 1) c1')),eBlk tb 39 [.slice A1 al.length c1,.int .i64 (N : Int),.slice A2 mr.length c2,.slice (some ⟨b,off,none⟩) ed.length c3]] w3) := S3'
             clear S3'
             refine hK.out _ _ ?_ (fun hHeld => ?_)
             · exact S3.out.pick [1,2] (by decide)
             clear hK K
             try simp only [sx]
             refine rdH 17 rfl fun K hK => ?_
             refine step_mapUpdateS rfl (.tmp 59) (.tmp 61) (.tmp 72) 124 3 36 rfl S3.out 4 rfl okI Try.underlying124 (d : Int) (.slice A1' ((predsOf (ed.take k) d).length + 1) c1') rfl rfl rfl ?_
             intro w4 S4' _
             have e4 := HPU.out (.slice A1' ((predsOf (ed.take k) d).length + 1) c1')
             rw [e4] at S4'
             clear e4
             have S4 : Hid (Sep w.heap.size w [eBlk nnw 3 [.int .i64 src],eBlk xb 68 [.int .i64 src,.int .i64 ev,.int .i64 (d : Int)],eBlk pb 126 [.slice A1 al.length c1,.int .i64 (N : Int),.slice A2 mr.length c2,.slice (some ⟨b,off,none⟩) ed.length c3,.slice AU unc.length cU,.map (some mb),.slice (some ⟨lb,0,none⟩) N N],eBlk lb 4 (mkB N (fun t => !decide ((t : Int) ∈ rem))),eMap keyI veV mb (bkF (ed.take k ++ [⟨src,ev,(d : Int)⟩]) (vs.set d (.slice A1' ((predsOf (ed.take k) d).length + 1) c1'))),eRwsG encI 1 3 (predsOf (ed.take k ++ [⟨src,ev,(d : Int)⟩])) (vs.set d (.slice A1' ((predsOf (ed.take k) d).length + 1) c1')),eBlk tb 39 [.slice A1 al.length c1,.int .i64 (N : Int),.slice A2 mr.length c2,.slice (some ⟨b,off,none⟩) ed.length c3]] w4) := S4'
             clear S4'
             refine hK.out _ _ ?_ (fun hHeld => ?_)
             · exact S4.out.pick [1,2] (by decide)
             clear hK K
             try simp only [sx]
             refine wpAnyH_done (by kernel_rfl) ?_ _
             have HT : Hid (ed.take (k + 1) = ed.take k ++ [⟨src,ev,(d : Int)⟩]) := by rw [Hid,List.take_add_one,HX.out]; rfl
             have S9 := Lib.hid (S4.out.pick [2,3,4,5,6] (by decide))
             clear S4
             go_wp2_with fail
             go_roundw
             case rel => exact ⟨k + 1,vs.set d (.slice A1' ((predsOf (ed.take k) d).length + 1) c1'),by omega,by go_num,by rw [Hid,List.length_set]; exact HVL.out,by rw [HT.out]; exact S9.out⟩
             case measure => simp [intOf]; omega
           · skip
             go_simp
             obtain ⟨nnw,hnnw⟩ : ∃ n,n = w1.heap.size := ⟨_,rfl⟩
             obtain ⟨w5,hw5⟩ : ∃ v,v = w1.alloc (.cells #[.int .i64 src] 3) := ⟨_,rfl⟩
             rw [← hw5,← hnnw]
             have S5 := qkA S1.out hw5 hnnw
             skip
             clear hw5 hnnw
             refine hK.out _ _ ?_ (fun hHeld => ?_)
             · exact S5.out.pick [1,2] (by decide)
             clear hK K
             try simp only [sx]
             refine rdH 12 rfl fun K hK => ?_
             have hlk := (MapG.look okI Try.underlying124 zeroL (S5.out.get 4 rfl) (d : Int)).2
             rw [HGD.out] at hlk
             simp only [keyI,veV] at hlk
             go_simp
             refine hK.out _ _ ?_ (fun hHeld => ?_)
             · exact S5.out.pick [1,2] (by decide)
             clear hK K
             try simp only [sx]
             refine rdH 16 rfl fun K hK => ?_
             refine step_append_at rfl (.tmp 68) (.tmp 71) 36 rfl 0 3 _ 1 8 Try.underlying36 intInfo rfl (by decide) v _ _ rfl ((S5.out.get 5 rfl).1 d v HVS.out) ⟨nnw,0,none⟩ 1 1 (encI src) rfl rfl (fun j u hj => (cell_add (S5.out.get 0 rfl) j).trans hj) (encI_one _) (by simp only [maxLen]; omega) (by omega) (Nat.zero_le _) ?_
             intro A1' c1' w6 ho hg hb'
             have S6' := S5.out.rwsPush 5 rfl HVS.out (f' := predsOf (ed.take k ++ [⟨src,ev,(d : Int)⟩])) (y := src) (by rw [predsOf_snoc,if_pos rfl]) (fun j hj => by rw [predsOf_snoc,if_neg (fun e => hj (by have e : (d : Int) = (j : Int) := e; omega))]) ho hg hb'
             clear ho hg hb'
             have S6 : Hid (Sep w.heap.size w [eBlk nnw 3 [.int .i64 src],eBlk xb 68 [.int .i64 src,.int .i64 ev,.int .i64 (d : Int)],eBlk pb 126 [.slice A1 al.length c1,.int .i64 (N : Int),.slice A2 mr.length c2,.slice (some ⟨b,off,none⟩) ed.length c3,.slice AU unc.length cU,.map (some mb),.slice (some ⟨lb,0,none⟩) N N],eBlk lb 4 (mkB N (fun t => !decide ((t : Int) ∈ rem))),eMap keyI veV mb (bkF (ed.take k) vs),eRwsG encI 1 3 (predsOf (ed.take k ++ [⟨src,ev,(d : Int)⟩])) (vs.set d (.slice A1' ((predsOf (ed.take k) d).length + 1) c1')),eBlk tb 39 [.slice A1 al.length c1,.int .i64 (N : Int),.slice A2 mr.length c2,.slice (some ⟨b,off,none⟩) ed.length c3]] w6) := S6'
             clear S6'
             refine hK.out _ _ ?_ (fun hHeld => ?_)
             · exact S6.out.pick [1,2] (by decide)
             clear hK K
             try simp only [sx]
             refine rdH 17 rfl fun K hK => ?_
             refine step_mapUpdateS rfl (.tmp 59) (.tmp 61) (.tmp 72) 124 3 36 rfl S6.out 4 rfl okI Try.underlying124 (d : Int) (.slice A1' ((predsOf (ed.take k) d).length + 1) c1') rfl rfl rfl ?_
             intro w7 S7' _
             have e7 := HPU.out (.slice A1' ((predsOf (ed.take k) d).length + 1) c1')
             rw [e7] at S7'
             clear e7
             have S7 : Hid (Sep w.heap.size w [eBlk nnw 3 [.int .i64 src],eBlk xb 68 [.int .i64 src,.int .i64 ev,.int .i64 (d : Int)],eBlk pb 126 [.slice A1 al.length c1,.int .i64 (N : Int),.slice A2 mr.length c2,.slice (some ⟨b,off,none⟩) ed.length c3,.slice AU unc.length cU,.map (some mb),.slice (some ⟨lb,0,none⟩) N N],eBlk lb 4 (mkB N (fun t => !decide ((t : Int) ∈ rem))),eMap keyI veV mb (bkF (ed.take k ++ [⟨src,ev,(d : Int)⟩]) (vs.set d (.slice A1' ((predsOf (ed.take k) d).length + 1) c1'))),eRwsG encI 1 3 (predsOf (ed.take k ++ [⟨src,ev,(d : Int)⟩])) (vs.set d (.slice A1' ((predsOf (ed.take k) d).length + 1) c1')),eBlk tb 39 [.slice A1 al.length c1,.int .i64 (N : Int),.slice A2 mr.length c2,.slice (some ⟨b,off,none⟩) ed.length c3]] w7) := S7'
             clear S7'
             refine hK.out _ _ ?_ (fun hHeld => ?_)
             · exact S7.out.pick [1,2] (by decide)
             clear hK K
             try simp only [sx]
             refine wpAnyH_done (by kernel_rfl) ?_ _
             have HT : Hid (ed.take (k + 1) = ed.take k ++ [⟨src,ev,(d : Int)⟩]) := by rw [Hid,List.take_add_one,HX.out]; rfl
             have S9 := Lib.hid (S7.out.pick [2,3,4,5,6] (by decide))
             clear S7
             go_wp2_with fail
             go_roundw
             case rel => exact ⟨k + 1,vs.set d (.slice A1' ((predsOf (ed.take k) d).length + 1) c1'),by omega,by go_num,by rw [Hid,List.length_set]; exact HVL.out,by rw [HT.out]; exact S9.out⟩
             case measure => simp [intOf]; omega
         · obtain rfl : k = ed.length := by omega
           have S1 : Hid (Sep w.heap.size w [eBlk pb 126 [.slice A1 al.length c1,.int .i64 (N : Int),.slice A2 mr.length c2,.slice A3 ed.length c3,.slice AU unc.length cU,.map (some mb),.slice (some ⟨lb,0,none⟩) N N],eBlk lb 4 (mkB N (fun t => !decide ((t : Int) ∈ rem))),eMap keyI veV mb (bkF ed vs),eRwsG encI 1 3 (predsOf ed) vs,eBlk tb 39 [.slice A1 al.length c1,.int .i64 (N : Int),.slice A2 mr.length c2,.slice A3 ed.length c3]] wr) := by
            have h := S.out
            rw [List.take_length] at h
            exact h
           clear S
           go_wp2_with fail
           go_ret
           exact ⟨⟨pb,mb,lb,vs⟩,rfl,by rw [Hid]; simpa using HVL.out,S1.out.pick [0,1,2,3] (by decide)⟩
end Go.Proofs.Ytccfcaejlohahaa
