/-
  The checker's look at a removal.
  The division of numbers into kept and removed ones.
  The checker's division of numbers.
  A right problem.
  The checker's look at a certificate of kept states.
-/
import Derived.Test.YtccfcaejlohahaaBas05
import Derived.Test.YtccfcaejlohahaaBas01
import Derived.Deep.DeepCutAuto
import Derived.RegionTactic
import Derived.BigRegion
import Derived.Test.YtccfcaejlohahaaBas03
import Derived.StillTailTactics
set_option linter.unusedSimpArgs false
set_option linter.unusedVariables false
namespace Go.Proofs.Ytccfcaejlohahaa
open Go.RowKit
set_option maxRecDepth 100000
section

def removes1P (rm : List Rm) (r : Rm) (x : Ed) : Prop := x.ev = r.ev ∧ lowerP rm x.dst r.rank
def removes2P (rm : List Rm) (r : Rm) (x : Ed) : Prop := ¬ lowerP rm x.dst r.rank ∧ ¬ alikeP rm x.dst r.rank
def removesP (forb unc mr : List Int) (rm : List Rm) (es : List Ed) (r : Rm) : Prop :=
 (r.reason = 1 ∧ r.ev = -1 ∧ r.st ∈ forb) ∨ (r.reason = 2 ∧ r.ev ∈ unc ∧ ∃ x,x ∈ es ∧ removes1P rm r x) ∨ (r.reason = 3 ∧ r.ev = -1 ∧ r.st ∉ mr ∧ ¬ ∃ x,x ∈ es ∧ removes2P rm r x)

section
variable (w : World) (bs br : Nat) (s : Sp) (p : SpP) (n : Nat) (kept : List Int) (r : Rm) (es : List Ed)
 (h : Sp.At w s p) (ho : s.Of n kept) (hx : ∀ (i : Nat) r,r ∈ s.rm → r.st = (i : Int) → s.kp[i]? = some false)
 (c0 : w.cell? ⟨bs,0,none⟩ = some (.slice p.Ak s.kp.length p.ck)) (c1 : w.cell? ⟨bs,1,none⟩ = some (.slice p.Ap s.pl.length p.cp)) (c2 : w.cell? ⟨bs,2,none⟩ = some (.slice p.Ar s.rm.length p.cr)) (hbs : bs < w.heap.size)
 (r1 : w.cell? ⟨br,1,none⟩ = some (.int .i64 r.rank)) (r3 : w.cell? ⟨br,3,none⟩ = some (.int .i64 r.ev)) (hbr : br < w.heap.size)
 (hes : ∀ x,x ∈ es → 0 ≤ x.dst ∧ x.dst < n)
include h ho hx c0 c1 c2 hbs r1 hbr hes
theorem pred4 : PredOn Try.prog 62 #[.pointer (some ⟨bs,0,none⟩),.pointer (some ⟨br,0,none⟩)] Ed.enc (removes2P s.rm r) es w := by
 intro W x hm hb
 obtain ⟨g0,g1⟩ := hes x hm
 obtain ⟨src,ev,dst⟩ := x
 simp only at g0 g1
 obtain ⟨t,rfl⟩ := Int.eq_ofNat_of_zero_le g0
 exact removes2_c bs br s p n kept src ev t r.rank W (h.below hb) ho (by omega) (hx t) (old_cell hb c0 hbs) (old_cell hb c1 hbs) (old_cell hb c2 hbs) (Nat.lt_of_lt_of_le hbs hb.size) (old_cell hb r1 hbr) (Nat.lt_of_lt_of_le hbr hb.size)
include r3
theorem pred3 : PredOn Try.prog 60 #[.pointer (some ⟨br,0,none⟩),.pointer (some ⟨bs,0,none⟩)] Ed.enc (removes1P s.rm r) es w := by
 intro W x hm hb
 obtain ⟨g0,g1⟩ := hes x hm
 obtain ⟨src,ev,dst⟩ := x
 simp only at g0 g1
 obtain ⟨t,rfl⟩ := Int.eq_ofNat_of_zero_le g0
 exact removes1_c bs br s p n kept src ev t r.rank r.ev W (h.below hb) ho (by omega) (hx t) (old_cell hb c0 hbs) (old_cell hb c1 hbs) (old_cell hb c2 hbs) (Nat.lt_of_lt_of_le hbs hb.size) (old_cell hb r1 hbr) (old_cell hb r3 hbr) (Nat.lt_of_lt_of_le hbr hb.size)
end

set_option maxHeartbeats 600000 in
theorem removes_c (au : Au) (forb unc : List Int) (p : PrP) (s : Sp) (sp : SpP) (AE : Option Addr) (cE : Nat) (es : List Ed) (r : Rm) (w : World)
 (hp : PrAt w au forb unc p) (hs : Sp.At w s sp) (n : Nat) (kept : List Int) (ho : s.Of n kept) (hx : ∀ (i : Nat) r,r ∈ s.rm → r.st = (i : Int) → s.kp[i]? = some false) (hE : EdsAt w AE es) (lE : es.length ≤ 140737488355328) (hif : incr forb) (hiu : incr unc) (him : incr au.mr)
 (hes : ∀ x,x ∈ es → 0 ≤ x.dst ∧ x.dst < n) :
 Calls Try.prog 25 #[prVal au forb unc p,s.val sp,.slice AE es.length cE,.agg #[.int .i64 r.st,.int .i64 r.rank,.int .i64 r.reason,.int .i64 r.ev]] w (Tells (removesP forb unc au.mr s.rm es r) w) := by
 obtain ⟨kp,pl,rm⟩ := s
 obtain ⟨Ak,ck,Ap,cp,Ar,cr⟩ := sp
 obtain ⟨al,m,mr,ed⟩ := au
 obtain ⟨⟨A1,c1,A2,c2,A3,c3⟩,AF,cF,AU,cU⟩ := p
 obtain ⟨st,rank,reason,ev⟩ := r
 have HP := Lib.hid hp
 have HS := Lib.hid hs
 have HE := Lib.hid hE
 have HF := Lib.hid hif
 have HU := Lib.hid hiu
 have HM := Lib.hid him
 have HX := Lib.hid hes
 have HO := Lib.hid ho
 have HXX := Lib.hid hx
 have lf : forb.length ≤ 140737488355328 := hp.lf
 have lu : unc.length ≤ 140737488355328 := hp.lu
 have lm : mr.length ≤ 140737488355328 := hp.au.lmk
 clear hp hs hE hif hiu him hes ho hx
 dsimp only [Sp.val,prVal,prCells] at *
 have B0 := Lib.hid (((Below.new w (.cells #[.slice A1 al.length c1,.int .i64 m,.slice A2 mr.length c2,.slice A3 ed.length c3,.slice AF forb.length cF,.slice AU unc.length cU] 44)).alloc (by simp) (.cells #[.slice Ak kp.length ck,.slice Ap pl.length cp,.slice Ar rm.length cr] 88)).alloc (by simp; omega) (.cells #[.int .i64 st,.int .i64 rank,.int .i64 reason,.int .i64 ev] 70))
 obtain ⟨W,hW⟩ : ∃ W,W = (((w.alloc (.cells #[.slice A1 al.length c1,.int .i64 m,.slice A2 mr.length c2,.slice A3 ed.length c3,.slice AF forb.length cF,.slice AU unc.length cU] 44)).alloc (.cells #[.slice Ak kp.length ck,.slice Ap pl.length cp,.slice Ar rm.length cr] 88)).alloc (.cells #[.int .i64 st,.int .i64 rank,.int .i64 reason,.int .i64 ev] 70)) := ⟨_,rfl⟩
 have f2 : W.cell? ⟨w.heap.size,2,none⟩ = some (.slice A2 mr.length c2) := by rw [hW,alloc_cell _ _ _ _ (by simp only [World.size_alloc]; omega),alloc_cell _ _ _ _ (by simp only [World.size_alloc]; omega),new_cell _ _ [_,_,_,_,_,_] _ _ rfl]; rfl
 have f4 : W.cell? ⟨w.heap.size,4,none⟩ = some (.slice AF forb.length cF) := by rw [hW,alloc_cell _ _ _ _ (by simp only [World.size_alloc]; omega),alloc_cell _ _ _ _ (by simp only [World.size_alloc]; omega),new_cell _ _ [_,_,_,_,_,_] _ _ rfl]; rfl
 have f5 : W.cell? ⟨w.heap.size,5,none⟩ = some (.slice AU unc.length cU) := by rw [hW,alloc_cell _ _ _ _ (by simp only [World.size_alloc]; omega),alloc_cell _ _ _ _ (by simp only [World.size_alloc]; omega),new_cell _ _ [_,_,_,_,_,_] _ _ rfl]; rfl
 have s0 : W.cell? ⟨w.heap.size + 1,0,none⟩ = some (.slice Ak kp.length ck) := by rw [hW,alloc_cell _ _ _ _ (by simp only [World.size_alloc]; omega),new_cell _ _ [_,_,_] _ _ (by simp only [World.size_alloc])]; rfl
 have s1 : W.cell? ⟨w.heap.size + 1,1,none⟩ = some (.slice Ap pl.length cp) := by rw [hW,alloc_cell _ _ _ _ (by simp only [World.size_alloc]; omega),new_cell _ _ [_,_,_] _ _ (by simp only [World.size_alloc])]; rfl
 have s2 : W.cell? ⟨w.heap.size + 1,2,none⟩ = some (.slice Ar rm.length cr) := by rw [hW,alloc_cell _ _ _ _ (by simp only [World.size_alloc]; omega),new_cell _ _ [_,_,_] _ _ (by simp only [World.size_alloc])]; rfl
 have r0 : W.cell? ⟨w.heap.size + 2,0,none⟩ = some (.int .i64 st) := by rw [hW,new_cell _ _ [_,_,_,_] _ _ (by simp only [World.size_alloc])]; rfl
 have r1 : W.cell? ⟨w.heap.size + 2,1,none⟩ = some (.int .i64 rank) := by rw [hW,new_cell _ _ [_,_,_,_] _ _ (by simp only [World.size_alloc])]; rfl
 have r2 : W.cell? ⟨w.heap.size + 2,2,none⟩ = some (.int .i64 reason) := by rw [hW,new_cell _ _ [_,_,_,_] _ _ (by simp only [World.size_alloc])]; rfl
 have r3 : W.cell? ⟨w.heap.size + 2,3,none⟩ = some (.int .i64 ev) := by rw [hW,new_cell _ _ [_,_,_,_] _ _ (by simp only [World.size_alloc])]; rfl
 have hsz : w.heap.size + 2 < W.heap.size := by rw [hW]; simp only [World.size_alloc]; omega
 have z0 : w.heap.size < W.heap.size := by omega
 have z1 : w.heap.size + 1 < W.heap.size := by omega
 rw [← hW] at B0
 by_cases h1 : reason = 1
 · subst h1
   by_cases he : ev = -1
   · subst he
     go_enter Try.func25,Try.ntmps25
     go_wp2_with fail
     rw [← hW]
     clear hW
     refine (has_c AF cF forb st _ (HP.out.hf.below IntE.stays B0.out) (by omega) HF.out).mono ?_
     rintro e w2 ⟨r,rfl,hr,rfl⟩
     have HR := Lib.hid hr
     clear hr
     go_wp2
     go_ret
     exact ⟨r,rfl,by rw [HR.out]; simp [removesP],B0.out⟩
   · have he' : (ev == -1) = false := by simpa using he
     go_enter Try.func25,Try.ntmps25
     go_wp2
     go_ret
     exact ⟨_,rfl,by simp [removesP,he],by first | exact B0.out | (rw [← hW]; exact B0.out)⟩
 have h1' : (reason == 1) = false := by simpa using h1
 by_cases h2 : reason = 2
 · subst h2
   go_enter Try.func25,Try.ntmps25
   go_wp2_with fail
   rw [← hW]
   clear hW
   refine (has_c AU cU unc ev _ (HP.out.hu.below IntE.stays B0.out) (by omega) HU.out).mono ?_
   intro e w1 hs
   rcases hs.no1 with ⟨rfl,S,rfl⟩ | ⟨rfl,S,rfl⟩
   · go_wp2
     go_ret
     exact Tells.no (fun h => by simp [removesP] at h; exact S.out h.1) B0.out
   go_wp2_with fail
   refine (containsE_c 60 _ (enters_of Try.func60 (by kernel_rfl) rfl) (removes1P rm ⟨st,rank,2,ev⟩) AE cE es W (HE.out.below EdE.stays B0.out) lE
    (pred3 W (w.heap.size + 1) (w.heap.size + 2) ⟨kp,pl,rm⟩ ⟨Ak,ck,Ap,cp,Ar,cr⟩ n kept ⟨st,rank,2,ev⟩ es (HS.out.below B0.out) HO.out HXX.out s0 s1 s2 z1 r1 r3 hsz HX.out)).mono ?_
   rintro e w2 ⟨r,rfl,hr,hb2⟩
   have HR := Lib.hid hr
   clear hr
   go_wp2
   go_ret
   exact ⟨r,rfl,by rw [HR.out]; simp [removesP,S.out],B0.out.trans (hb2.mono (by omega))⟩
 have h2' : (reason == 2) = false := by simpa using h2
 by_cases h3 : reason = 3
 · subst h3
   by_cases he : ev = -1
   · subst he
     go_enter Try.func25,Try.ntmps25
     go_wp2_with fail
     rw [← hW]
     clear hW
     refine (has_c A2 c2 mr st _ (HP.out.au.mr.below IntE.stays B0.out) (by omega) HM.out).mono ?_
     intro e w1 hs
     rcases hs.yes1 with ⟨rfl,S,rfl⟩ | ⟨rfl,S,rfl⟩
     · go_wp2
       go_ret
       exact Tells.no (fun h => by simp [removesP] at h; exact h.1 S.out) B0.out
     go_wp2_with fail
     refine (containsE_c 62 _ (enters_of Try.func62 (by kernel_rfl) rfl) (removes2P rm ⟨st,rank,3,-1⟩) AE cE es W (HE.out.below EdE.stays B0.out) lE
      (pred4 W (w.heap.size + 1) (w.heap.size + 2) ⟨kp,pl,rm⟩ ⟨Ak,ck,Ap,cp,Ar,cr⟩ n kept ⟨st,rank,3,-1⟩ es (HS.out.below B0.out) HO.out HXX.out s0 s1 s2 z1 r1 hsz HX.out)).mono ?_
     rintro e w2 ⟨r,rfl,hr,hb2⟩
     have HR := Lib.hid hr
     clear hr
     go_wp2
     go_ret
     refine ⟨!r,rfl,?_,B0.out.trans (hb2.mono (by omega))⟩
     have h5 := HR.out
     cases r
     · have : ¬ ∃ x,x ∈ es ∧ removes2P rm ⟨st,rank,3,-1⟩ x := fun h => by simpa using h5.2 h
       exact ⟨fun _ => .inr (.inr ⟨rfl,rfl,S.out,this⟩),fun _ => rfl⟩
     · have := h5.1 rfl
       simp only [Bool.not_true,Bool.false_eq_true,false_iff]
       rintro (⟨h,_⟩ | ⟨h,_⟩ | ⟨_,_,_,h⟩)
       · cases h
       · cases h
       · exact h this
   · have he' : (ev == -1) = false := by simpa using he
     go_enter Try.func25,Try.ntmps25
     go_wp2
     go_ret
     exact ⟨_,rfl,by simp [removesP,he],by first | exact B0.out | (rw [← hW]; exact B0.out)⟩
 · have h3' : (reason == 3) = false := by simpa using h3
   go_enter Try.func25,Try.ntmps25
   go_wp2
   go_ret
   exact Tells.no (fun h => by rcases h with ⟨h,_⟩ | ⟨h,_⟩ | ⟨h,_⟩ <;> contradiction) (by first | exact B0.out | (rw [← hW]; exact B0.out))
end
theorem BlkAt.ne_ {w : World} {g g' : Nat} {T T' : TypeId} {cs cs' : List Value} (h : BlkAt w g T cs) (h' : BlkAt w g' T' cs') (hne : T ≠ T') : ¬ g = g' := by
 rintro rfl
 unfold BlkAt at h h'
 rw [h] at h'
 injection h' with h'
 injection h' with _ ht
 exact hne ht

theorem length_le_of {l : List Int} : ∀ {n : Nat},l.Nodup → (∀ x,x ∈ l → 0 ≤ x ∧ x < n) → l.length ≤ n := by
 intro n
 induction n generalizing l with
 | zero =>
   intro _ h
   cases l with
   | nil => simp
   | cons a l => have := h a (by simp); omega
 | succ n ih =>
   intro hd h
   by_cases hm : (n : Int) ∈ l
   · have h1 := ih (l := l.erase (n : Int)) (hd.erase _) (fun x hx => by
      have h2 := h x (List.mem_of_mem_erase hx)
      have h3 : x ≠ n := fun e => by subst e; exact (List.Nodup.not_mem_erase hd) hx
      omega)
     rw [List.length_erase_of_mem hm] at h1
     omega
   · have h1 := ih hd (fun x hx => by
      have h2 := h x hx
      have h3 : x ≠ n := fun e => hm (e ▸ hx)
      omega)
     omega
theorem covers {l : List Int} {n : Nat} (hd : l.Nodup) (hl : l.length = n) (h : ∀ x,x ∈ l → 0 ≤ x ∧ x < n) {i : Nat} (hi : i < n) : (i : Int) ∈ l := by
 by_cases hm : (i : Int) ∈ l
 · exact hm
 · have := length_le_of (l := (i : Int) :: l) (n := n) (List.nodup_cons.2 ⟨hm,hd⟩) (fun x hx => by
    rcases List.mem_cons.1 hx with rfl | hx
    · omega
    · exact h x hx)
   simp at this; omega
theorem incr.nodup {l : List Int} (h : incr l) : l.Nodup := by
 unfold List.Nodup
 rw [List.pairwise_iff_getElem]
 intro i j hi hj hij he
 have := h i j l[i] l[j] hij (List.getElem?_eq_getElem hi) (List.getElem?_eq_getElem hj)
 omega

def rmOk (n : Int) (kept : List Int) (rms : List Rm) (j : Nat) : Prop := ∀ r,rms[j]? = some r → 0 ≤ r.st ∧ r.st < n ∧ r.st ∉ kept ∧ 1 ≤ r.rank ∧ (∀ r',0 < j → rms[j-1]? = some r' → r'.st < r.st)
structure DivOk (n : Nat) (kept : List Int) (rms : List Rm) : Prop where
 hk : setOk kept n kept.length
 len : kept.length + rms.length = n
 hr : ∀ j,j < rms.length → rmOk n kept rms j

theorem DivOk.rises {n : Nat} {kept : List Int} {rms : List Rm} (h : DivOk n kept rms) : ∀ (i j : Nat) (x y : Rm),i < j → rms[i]? = some x → rms[j]? = some y → x.st < y.st := by
 intro i j
 induction j with
 | zero => intro x y h; omega
 | succ j ih =>
   intro x y hij hx hy
   have hj : j + 1 < rms.length := (List.getElem?_eq_some_iff.1 hy).1
   have hz : rms[j]? = some rms[j] := List.getElem?_eq_getElem (by omega)
   have h1 := (h.hr (j+1) hj y hy).2.2.2.2 rms[j] (by omega) hz
   by_cases e : i = j
   · subst e; rw [hx] at hz; cases hz; exact h1
   · have := ih x rms[j] (by omega) hx hz; omega
theorem DivOk.all {n : Nat} {kept : List Int} {rms : List Rm} (h : DivOk n kept rms) {i : Nat} (hi : i < n) : (i : Int) ∈ kept ∨ ∃ r,r ∈ rms ∧ r.st = (i : Int) := by
 have hd2 : incr (rms.map (·.st)) := by
  intro i j x y hij hx hy
  simp only [List.getElem?_map,Option.map_eq_some_iff] at hx hy
  obtain ⟨x',hx',rfl⟩ := hx
  obtain ⟨y',hy',rfl⟩ := hy
  exact h.rises i j x' y' hij hx' hy'
 have hr : ∀ r,r ∈ rms → 0 ≤ r.st ∧ r.st < n ∧ r.st ∉ kept := fun r hr => by
  obtain ⟨j,hj,rfl⟩ := List.mem_iff_getElem.1 hr
  have := h.hr j hj _ (List.getElem?_eq_getElem hj)
  exact ⟨this.1,this.2.1,this.2.2.1⟩
 have hk : ∀ x,x ∈ kept → 0 ≤ x ∧ x < n := fun x hx => by
  obtain ⟨j,hj,rfl⟩ := List.mem_iff_getElem.1 hx
  have := h.hk j _ hj (List.getElem?_eq_getElem hj)
  exact ⟨this.1,this.2.1⟩
 have := covers (l := kept ++ rms.map (·.st)) (n := n) (List.nodup_append.2 ⟨h.hk.incr.nodup,hd2.nodup,fun a ha b hb e => by
  obtain ⟨r,hr',rfl⟩ := List.mem_map.1 hb
  subst e
  exact (hr r hr').2.2 ha⟩) (by rw [List.length_append,List.length_map]; exact h.len) (fun x hx => by
  rcases List.mem_append.1 hx with hx | hx
  · exact hk x hx
  · obtain ⟨r,hr',rfl⟩ := List.mem_map.1 hx
    exact ⟨(hr r hr').1,(hr r hr').2.1⟩) hi
 rcases List.mem_append.1 this with h | h
 · exact .inl h
 · obtain ⟨r,hr',e⟩ := List.mem_map.1 h
   exact .inr ⟨r,hr',e⟩

structure Marks (n : Nat) (kept : List Int) (k : Nat) (kp : List Bool) (pl : List Int) : Prop where
 lk : kp.length = n
 lp : pl.length = n
 yes : ∀ (j i : Nat),j < k → kept[j]? = some (i : Int) → kp[i]? = some true ∧ pl[i]? = some (j : Int)
 no : ∀ i : Nat,i < n → (∀ j,j < k → kept[j]? ≠ some (i : Int)) → kp[i]? = some false
theorem Marks.start (n : Nat) (kept : List Int) : Marks n kept 0 (List.replicate n false) (List.replicate n 0) :=
 ⟨by simp,by simp,fun j i h => absurd h (by omega),fun i hi _ => by simp [hi]⟩
theorem Marks.step {n : Nat} {kept : List Int} {k : Nat} {kp : List Bool} {pl : List Int} (h : Marks n kept k kp pl) {i : Nat} (hi : kept[k]? = some (i : Int)) (hn : i < n) (hs : incr kept) : Marks n kept (k + 1) (kp.set i true) (pl.set i (k : Int)) := by
 refine ⟨by simpa using h.lk,by simpa using h.lp,fun j t hj ht => ?_,fun t ht hno => ?_⟩
 · by_cases e : j = k
   · subst e
     rw [hi] at ht
     have : t = i := by simp at ht; omega
     subst this
     simp [h.lk,h.lp,hn]
   · have hne : t ≠ i := fun e' => by subst e'; have := hs j k t t (by omega) ht hi; omega
     rw [List.getElem?_set_ne (by omega),List.getElem?_set_ne (by omega)]
     exact h.yes j t (by omega) ht
 · have hne : t ≠ i := fun e' => hno k (by omega) (by rw [e']; exact hi)
   rw [List.getElem?_set_ne (by omega)]
   exact h.no t ht (fun j hj => hno j (by omega))
theorem Marks.iff {n : Nat} {kept : List Int} {kp : List Bool} {pl : List Int} (h : Marks n kept kept.length kp pl) {i : Nat} (hi : i < n) : (kp[i]? = some true ↔ (i : Int) ∈ kept) ∧ (kp[i]? = some false ↔ (i : Int) ∉ kept) := by
 by_cases hm : (i : Int) ∈ kept
 · obtain ⟨j,hj,e⟩ := List.mem_iff_getElem.1 hm
   have := (h.yes j i hj (by rw [List.getElem?_eq_getElem hj,e])).1
   simp [this,hm]
 · have := h.no i hi (fun j hj e => hm (List.mem_of_getElem? e))
   simp [this,hm]
structure Places (n : Nat) (kept : List Int) (rms : List Rm) (m : Nat) (kp : List Bool) (pl : List Int) : Prop where
 lk : kp.length = n
 lp : pl.length = n
 yes : ∀ (j i : Nat),kept[j]? = some (i : Int) → pl[i]? = some (j : Int)
 rm : ∀ (j i : Nat) (r : Rm),j < m → rms[j]? = some r → r.st = (i : Int) → pl[i]? = some (j : Int)
theorem Places.start {n : Nat} {kept : List Int} {rms : List Rm} {kp : List Bool} {pl : List Int} (h : Marks n kept kept.length kp pl) : Places n kept rms 0 kp pl :=
 ⟨h.lk,h.lp,fun j i hj => (h.yes j i (List.getElem?_eq_some_iff.1 hj).1 hj).2,fun j i r h => absurd h (by omega)⟩
theorem Places.step {n : Nat} {kept : List Int} {rms : List Rm} {m : Nat} {kp : List Bool} {pl : List Int} (h : Places n kept rms m kp pl) {i : Nat} {r : Rm} (hr : rms[m]? = some r) (hst : r.st = (i : Int)) (hi : i < n) (hk : (i : Int) ∉ kept)
 (hinc : ∀ (j : Nat) (x : Rm),j < m → rms[j]? = some x → x.st < r.st) : Places n kept rms (m + 1) kp (pl.set i (m : Int)) := by
 refine ⟨h.lk,by simpa using h.lp,fun j t hj => ?_,fun j t x hj hx hxt => ?_⟩
 · have hne : t ≠ i := fun e => hk (e ▸ List.mem_of_getElem? hj)
   rw [List.getElem?_set_ne (by omega)]
   exact h.yes j t hj
 · by_cases e : j = m
   · subst e
     rw [hr] at hx; cases hx
     have : t = i := by omega
     subst this
     simp [h.lp,hi]
   · have := hinc j x (by omega) hx
     rw [List.getElem?_set_ne (by omega)]
     exact h.rm j t x (by omega) hx hxt

theorem Sp.of_places {n : Nat} {kept : List Int} {rms : List Rm} {kp : List Bool} {pl : List Int} (hd : DivOk n kept rms) (hm : ∀ i : Nat,i < n → (kp[i]? = some true ↔ (i : Int) ∈ kept) ∧ (kp[i]? = some false ↔ (i : Int) ∉ kept)) (hp : Places n kept rms rms.length kp pl) :
 Sp.Of ⟨kp,pl,rms⟩ n kept ∧ ∀ (i : Nat) r,r ∈ rms → r.st = (i : Int) → kp[i]? = some false := by
 have hr : ∀ (i : Nat) r,r ∈ rms → r.st = (i : Int) → (i : Int) ∉ kept ∧ i < n := fun i r hr e => by
  obtain ⟨j,hj,rfl⟩ := List.mem_iff_getElem.1 hr
  have := hd.hr j hj _ (List.getElem?_eq_getElem hj)
  rw [e] at this
  exact ⟨this.2.2.1,by have := this.2.1; omega⟩
 refine ⟨⟨hp.lk,hp.lp,fun i hi => ?_,hd.hk.incr,hd.rises⟩,fun i r h e => (hm i (hr i r h e).2).2.2 (hr i r h e).1⟩
 rcases hd.all hi with h | ⟨r,h,e⟩
 · obtain ⟨j,hj,e⟩ := List.mem_iff_getElem.1 h
   have hj' : kept[j]? = some (i : Int) := by rw [List.getElem?_eq_getElem hj,e]
   exact .inl ⟨(hm i hi).1.2 h,j,hp.yes j i hj',hj'⟩
 · obtain ⟨j,hj,rfl⟩ := List.mem_iff_getElem.1 h
   exact .inr ⟨(hm i hi).2.2 (hr i _ h e).1,j,rms[j],hp.rm j i _ hj (List.getElem?_eq_getElem hj) e,List.getElem?_eq_getElem hj,e⟩
structure DivS (w wx : World) (g gk gp n : Nat) (kp : List Bool) (pl : List Int) (vr : Value) : Prop where
 b6 : ∃ c0 c1 c2,BlkAt wx w.heap.size 88 [c0,c1,c2]
 bg : BlkAt wx g 88 [.slice (some ⟨gk,0,none⟩) n n,.slice (some ⟨gp,0,none⟩) n n,vr]
 bk : BlkAt wx gk 4 (kp.map .bool)
 bp : BlkAt wx gp 3 (pl.map (.int .i64))
 lg : w.heap.size < g
 lk : w.heap.size < gk
 lp : w.heap.size < gp
 below : Below w.heap.size w wx

theorem below4 (w : World) (o0 o1 o2 o3 : Obj) : Below w.heap.size w ((((w.alloc o0).alloc o1).alloc o2).alloc o3).drew :=
 ((((Below.new w o0).alloc (by simp) o1).alloc (by simp; omega) o2).alloc (by simp; omega) o3).drew
theorem heap4 (w : World) (o0 o1 o2 o3 : Obj) : ((((w.alloc o0).alloc o1).alloc o2).alloc o3).drew.heap[w.heap.size]? = some o0 ∧ ((((w.alloc o0).alloc o1).alloc o2).alloc o3).drew.heap[w.heap.size + 1]? = some o1 ∧
 ((((w.alloc o0).alloc o1).alloc o2).alloc o3).drew.heap[w.heap.size + 1 + 1]? = some o2 ∧ ((((w.alloc o0).alloc o1).alloc o2).alloc o3).drew.heap[w.heap.size + 1 + 1 + 1]? = some o3 := by
 refine ⟨?_,?_,?_,?_⟩
 · show ((((w.heap.push o0).push o1).push o2).push o3)[w.heap.size]? = _
   rw [Array.getElem?_push,if_neg (by simp only [Array.size_push]; omega),Array.getElem?_push,if_neg (by simp only [Array.size_push]; omega),Array.getElem?_push,if_neg (by simp only [Array.size_push]; omega),Array.getElem?_push,if_pos rfl]
 · show ((((w.heap.push o0).push o1).push o2).push o3)[w.heap.size + 1]? = _
   rw [Array.getElem?_push,if_neg (by simp only [Array.size_push]; omega),Array.getElem?_push,if_neg (by simp only [Array.size_push]; omega),Array.getElem?_push,if_pos (by simp only [Array.size_push])]
 · show ((((w.heap.push o0).push o1).push o2).push o3)[w.heap.size + 1 + 1]? = _
   rw [Array.getElem?_push,if_neg (by simp only [Array.size_push]; omega),Array.getElem?_push,if_pos (by simp only [Array.size_push])]
 · show ((((w.heap.push o0).push o1).push o2).push o3)[w.heap.size + 1 + 1 + 1]? = _
   rw [Array.getElem?_push,if_pos (by simp only [Array.size_push])]
theorem repB (n : Nat) : (List.map Value.bool (List.replicate n false)).toArray = Array.replicate n (Value.bool false) := by simp
theorem repI (n : Nat) : (List.map (Value.int .i64) (List.replicate n 0)).toArray = Array.replicate n (Value.int .i64 0) := by simp

theorem BlkAt.set3 {w : World} {g : Nat} {T : TypeId} {c0 c1 c2 : Value} (h : BlkAt w g T [c0,c1,c2]) (a b c : Value) : BlkAt (((w.setCell ⟨g,0,none⟩ a).setCell ⟨g,1,none⟩ b).setCell ⟨g,2,none⟩ c) g T [a,b,c] :=
 ((h.set_ 0 a).set_ 1 b).set_ 2 c

def Divides (n : Nat) (kept : List Int) (rms : List Rm) (w : World) (e : Ending) (w' : World) : Prop :=
 ∃ (s : Sp) (p : SpP) (r : Bool),e = .returned (.tuple #[s.val p,.bool r]) ∧ s.rm = rms ∧ (r = true ↔ DivOk n kept rms) ∧ (r = true → Sp.At w' s p ∧ s.Of n kept ∧ ∀ (i : Nat) r,r ∈ rms → r.st = (i : Int) → s.kp[i]? = some false) ∧ Below w.heap.size w w'

theorem DivS.setK {w wx : World} {g gk gp n : Nat} {kp : List Bool} {pl : List Int} {vr : Value} (D : DivS w wx g gk gp n kp pl vr) (i : Nat) (x : Bool) : DivS w (wx.setCell ⟨gk,i,none⟩ (.bool x)) g gk gp n (kp.set i x) pl vr := by
 obtain ⟨⟨c0,c1,c2,h6⟩,hg,hk,hp,l1,l2,l3,hb⟩ := D
 refine ⟨⟨c0,c1,c2,h6.far (by simp only; omega) _⟩,hg.far (by exact hg.ne_ hk (by decide)) _,?_,hp.far (by exact hp.ne_ hk (by decide)) _,l1,l2,l3,hb.setCell (by simp only; omega) _⟩
 have := hk.set_ i (.bool x)
 rwa [← List.map_set] at this
theorem DivS.setP {w wx : World} {g gk gp n : Nat} {kp : List Bool} {pl : List Int} {vr : Value} (D : DivS w wx g gk gp n kp pl vr) (i : Nat) (x : Int) : DivS w (wx.setCell ⟨gp,i,none⟩ (.int .i64 x)) g gk gp n kp (pl.set i x) vr := by
 obtain ⟨⟨c0,c1,c2,h6⟩,hg,hk,hp,l1,l2,l3,hb⟩ := D
 refine ⟨⟨c0,c1,c2,h6.far (by simp only; omega) _⟩,hg.far (by exact hg.ne_ hp (by decide)) _,hk.far (by exact hk.ne_ hp (by decide)) _,?_,l1,l2,l3,hb.setCell (by simp only; omega) _⟩
 have := hp.set_ i (.int .i64 x)
 rwa [← List.map_set] at this
theorem DivS.drew {w wx : World} {g gk gp n : Nat} {kp : List Bool} {pl : List Int} {vr : Value} (D : DivS w wx g gk gp n kp pl vr) : DivS w wx.drew g gk gp n kp pl vr :=
 ⟨D.b6,D.bg,D.bk,D.bp,D.lg,D.lk,D.lp,D.below.drew⟩
theorem DivS.newD {w wx : World} {g gk gp n : Nat} {kp : List Bool} {pl : List Int} {vr : Value} (D : DivS w wx g gk gp n kp pl vr) (o : Obj) (q : Nat) : DivS w ((wx.alloc o).drewN q) g gk gp n kp pl vr := by
 obtain ⟨⟨c0,c1,c2,h6⟩,hg,hk,hp,l1,l2,l3,hb⟩ := D
 exact ⟨⟨c0,c1,c2,(h6.alloc o).draws q⟩,(hg.alloc o).draws q,(hk.alloc o).draws q,(hp.alloc o).draws q,l1,l2,l3,(hb.alloc hb.size o).draws q⟩
theorem DivS.kcell {w wx : World} {g gk gp n : Nat} {kp : List Bool} {pl : List Int} {vr : Value} (D : DivS w wx g gk gp n kp pl vr) {i : Nat} {x : Bool} (h : kp[i]? = some x) : wx.cell? ⟨gk,i,none⟩ = some (.bool x) := by
 rw [D.bk.cell,List.getElem?_map,h]; rfl
theorem DivS.pcell {w wx : World} {g gk gp n : Nat} {kp : List Bool} {pl : List Int} {vr : Value} (D : DivS w wx g gk gp n kp pl vr) {i : Nat} {x : Int} (h : pl[i]? = some x) : wx.cell? ⟨gp,i,none⟩ = some (.int .i64 x) := by
 rw [D.bp.cell,List.getElem?_map,h]; rfl

theorem SlAt.of_blk {α : Type} {enc : α → Value} {w : World} {g : Nat} {T : TypeId} {l : List α} (h : BlkAt w g T (l.map enc)) : SlAt (fun _ x vs => vs = [enc x]) 1 w (some ⟨g,0,none⟩) l := by
 intro _
 refine ⟨g,0,rfl,h.lt,fun i x hx => ⟨[enc x],rfl,rfl,fun j u hj => ?_⟩⟩
 cases j with
 | zero =>
   simp only [List.getElem?_cons_zero,Option.some.injEq] at hj
   rw [Nat.zero_add,Nat.mul_one,Nat.add_zero,h.cell,List.getElem?_map,hx,← hj]; rfl
 | succ j => simp at hj

theorem Divides.fin {n : Nat} {kept : List Int} {rms : List Rm} {w wx : World} {g gk gp : Nat} {kp : List Bool} {pl : List Int} {AR : Option Addr} {cR : Nat} (D : DivS w wx g gk gp n kp pl (.slice AR rms.length cR)) (lk : kp.length = n) (lp : pl.length = n) (hn : n ≤ 4096) (HR : RmsAt w AR rms) {r : Bool}
 (hr : r = true ↔ DivOk n kept rms) (hs : r = true → Sp.Of ⟨kp,pl,rms⟩ n kept ∧ ∀ (i : Nat) r,r ∈ rms → r.st = (i : Int) → kp[i]? = some false) (a b c : Value) :
 Divides n kept rms w (.returned (.tuple #[.agg #[.slice (some ⟨gk,0,none⟩) n n,.slice (some ⟨gp,0,none⟩) n n,.slice AR rms.length cR],.bool r])) (((wx.setCell ⟨w.heap.size,0,none⟩ a).setCell ⟨w.heap.size,1,none⟩ b).setCell ⟨w.heap.size,2,none⟩ c) := by
 have hb := ((D.below.setCell (p := ⟨w.heap.size,0,none⟩) (Nat.le_refl _) a).setCell (p := ⟨w.heap.size,1,none⟩) (Nat.le_refl _) b).setCell (p := ⟨w.heap.size,2,none⟩) (Nat.le_refl _) c
 refine ⟨⟨kp,pl,rms⟩,⟨some ⟨gk,0,none⟩,n,some ⟨gp,0,none⟩,n,AR,cR⟩,r,by simp [lk,lp],rfl,hr,fun h => ⟨⟨?_,?_,HR.below RmE.stays hb,by simp only [lk]; exact hn,by simp only [lp]; exact hn,?_⟩,(hs h).1,(hs h).2⟩,hb⟩
 · exact SlAt.of_blk (enc := Value.bool) (T := 4) (((D.bk.far (p := ⟨w.heap.size,0,none⟩) (by have := D.lk; simp only; omega) a).far (p := ⟨w.heap.size,1,none⟩) (by have := D.lk; simp only; omega) b).far (p := ⟨w.heap.size,2,none⟩) (by have := D.lk; simp only; omega) c)
 · exact SlAt.of_blk (enc := Value.int .i64) (T := 3) (((D.bp.far (p := ⟨w.heap.size,0,none⟩) (by have := D.lp; simp only; omega) a).far (p := ⟨w.heap.size,1,none⟩) (by have := D.lp; simp only; omega) b).far (p := ⟨w.heap.size,2,none⟩) (by have := D.lp; simp only; omega) c)
 · have := (hr.1 h).len
   simp only; omega

set_option maxRecDepth 100000 in
set_option maxHeartbeats 1000000 in
theorem divide_c (n : Nat) (AK : Option Addr) (cK : Nat) (kept : List Int) (AR : Option Addr) (cR : Nat) (rms : List Rm) (w : World) (hn : n ≤ 4096) (hK : IntsAt w AK kept) (hR : RmsAt w AR rms) (lK : kept.length ≤ 4096) (lR : rms.length ≤ 140737488355328) :
 Calls Try.prog 22 #[.int .i64 n,.slice AK kept.length cK,.slice AR rms.length cR] w (Divides n kept rms w) := by
 have HK := Lib.hid hK
 have HR := Lib.hid hR
 clear hK hR
 have hmk1 := make_run (P := Try.prog) 86 4 (.bool false) 1 Try.underlying86 boolInfo rfl n (by omega) (by omega)
 have hmk2 := make_run (P := Try.prog) 36 3 (.int .i64 0) 8 Try.underlying36 intInfo rfl n (by omega) (by omega)
 go_enter Try.func22,Try.ntmps22
 go_upto_region 1 with fail
 go_cut [8] (fun s8 wx => ∃ g gk gp,s8 = .pointer (some ⟨g,0,none⟩) ∧ Hid (DivS w wx g gk gp n (List.replicate n false) (List.replicate n 0) (.slice AR rms.length cR)))
 case first =>
  go_region
  all_goals (go_wp2_with fail; go_meet)
  all_goals first
  | exact ⟨w.heap.size + 1 + 1 + 1,w.heap.size + 1,w.heap.size + 1 + 1,rfl,⟨⟨_,_,_,(heap4 w _ _ _ _).1⟩,(heap4 w _ _ _ _).2.2.2,by unfold BlkAt; rw [repB]; exact (heap4 w _ _ _ _).2.1,by unfold BlkAt; rw [repI]; exact (heap4 w _ _ _ _).2.2.1,by omega,by omega,by omega,below4 w _ _ _ _⟩⟩
  | exact ⟨w.heap.size + 1 + 1,w.heap.size + 1,w.heap.size + 1 + 1 + 1,rfl,⟨⟨_,_,_,(heap4 w _ _ _ _).1⟩,(heap4 w _ _ _ _).2.2.1,by unfold BlkAt; rw [repB]; exact (heap4 w _ _ _ _).2.1,by unfold BlkAt; rw [repI]; exact (heap4 w _ _ _ _).2.2.2,by omega,by omega,by omega,below4 w _ _ _ _⟩⟩
  | exact ⟨w.heap.size + 1 + 1 + 1,w.heap.size + 1 + 1,w.heap.size + 1,rfl,⟨⟨_,_,_,(heap4 w _ _ _ _).1⟩,(heap4 w _ _ _ _).2.2.2,by unfold BlkAt; rw [repB]; exact (heap4 w _ _ _ _).2.2.1,by unfold BlkAt; rw [repI]; exact (heap4 w _ _ _ _).2.1,by omega,by omega,by omega,below4 w _ _ _ _⟩⟩
  | exact ⟨w.heap.size + 1 + 1,w.heap.size + 1 + 1 + 1,w.heap.size + 1,rfl,⟨⟨_,_,_,(heap4 w _ _ _ _).1⟩,(heap4 w _ _ _ _).2.2.1,by unfold BlkAt; rw [repB]; exact (heap4 w _ _ _ _).2.2.2,by unfold BlkAt; rw [repI]; exact (heap4 w _ _ _ _).2.1,by omega,by omega,by omega,below4 w _ _ _ _⟩⟩
  | exact ⟨w.heap.size + 1,w.heap.size + 1 + 1,w.heap.size + 1 + 1 + 1,rfl,⟨⟨_,_,_,(heap4 w _ _ _ _).1⟩,(heap4 w _ _ _ _).2.1,by unfold BlkAt; rw [repB]; exact (heap4 w _ _ _ _).2.2.1,by unfold BlkAt; rw [repI]; exact (heap4 w _ _ _ _).2.2.2,by omega,by omega,by omega,below4 w _ _ _ _⟩⟩
  | exact ⟨w.heap.size + 1,w.heap.size + 1 + 1 + 1,w.heap.size + 1 + 1,rfl,⟨⟨_,_,_,(heap4 w _ _ _ _).1⟩,(heap4 w _ _ _ _).2.1,by unfold BlkAt; rw [repB]; exact (heap4 w _ _ _ _).2.2.2,by unfold BlkAt; rw [repI]; exact (heap4 w _ _ _ _).2.2.1,by omega,by omega,by omega,below4 w _ _ _ _⟩⟩
 case rest =>
  obtain ⟨g,gk,gp,rfl,D⟩ := hcut
  clear hmk1 hmk2
  have BD := Lib.hid D.out.below
  go_wp2_with fail
  refine (set_c AK cK kept n _ (HK.out.below IntE.stays BD.out) (by unfold maxLen; omega)).mono ?_
  intro e w1 hs
  rcases hs.no1 with ⟨rfl,S,rfl⟩ | ⟨rfl,S,rfl⟩
  · have q0 : wc.cell? ⟨g,0,none⟩ = some (.slice (some ⟨gk,0,none⟩) n n) := D.out.bg.cell 0
    have q1 : wc.cell? ⟨g,1,none⟩ = some (.slice (some ⟨gp,0,none⟩) n n) := D.out.bg.cell 1
    have q2 : wc.cell? ⟨g,2,none⟩ = some (.slice AR rms.length cR) := D.out.bg.cell 2
    obtain ⟨x0,x1,x2,hb6⟩ := D.out.b6
    have p0 : wc.cell? ⟨w.heap.size,0,none⟩ = some x0 := hb6.cell 0
    have p1 : wc.cell? ⟨w.heap.size,1,none⟩ = some x1 := hb6.cell 1
    have p2 : wc.cell? ⟨w.heap.size,2,none⟩ = some x2 := hb6.cell 2
    have f0 : wc.frozen? ⟨w.heap.size,0,none⟩ = false := hb6.free 0
    have f1 : wc.frozen? ⟨w.heap.size,1,none⟩ = false := hb6.free 1
    have f2 : wc.frozen? ⟨w.heap.size,2,none⟩ = false := hb6.free 2
    have HB6 := Lib.hid hb6
    clear hb6
    go_wp2
    have hb7 := HB6.out.set3 (.slice (some ⟨gk,0,none⟩) n n) (.slice (some ⟨gp,0,none⟩) n n) (.slice AR rms.length cR)
    have r0 := hb7.cell 0
    have r1 := hb7.cell 1
    have r2 := hb7.cell 2
    refine bodyPost_ret (v := .tuple #[.agg #[.slice (some ⟨gk,0,none⟩) n n,.slice (some ⟨gp,0,none⟩) n n,.slice AR rms.length cR],.bool false]) (by simp [results,Try.results22,go_sem,r0,r1,r2]) rfl ?_
    exact Divides.fin D.out (by simp) (by simp) hn HR.out ⟨fun h => (by cases h),fun h => absurd h.hk S.out⟩ (fun h => (by cases h)) _ _ _
  by_cases hlen : kept.length + rms.length = n
  rotate_left
  · have q0 : wc.cell? ⟨g,0,none⟩ = some (.slice (some ⟨gk,0,none⟩) n n) := D.out.bg.cell 0
    have q1 : wc.cell? ⟨g,1,none⟩ = some (.slice (some ⟨gp,0,none⟩) n n) := D.out.bg.cell 1
    have q2 : wc.cell? ⟨g,2,none⟩ = some (.slice AR rms.length cR) := D.out.bg.cell 2
    obtain ⟨x0,x1,x2,hb6⟩ := D.out.b6
    have p0 : wc.cell? ⟨w.heap.size,0,none⟩ = some x0 := hb6.cell 0
    have p1 : wc.cell? ⟨w.heap.size,1,none⟩ = some x1 := hb6.cell 1
    have p2 : wc.cell? ⟨w.heap.size,2,none⟩ = some x2 := hb6.cell 2
    have f0 : wc.frozen? ⟨w.heap.size,0,none⟩ = false := hb6.free 0
    have f1 : wc.frozen? ⟨w.heap.size,1,none⟩ = false := hb6.free 1
    have f2 : wc.frozen? ⟨w.heap.size,2,none⟩ = false := hb6.free 2
    have HB6 := Lib.hid hb6
    clear hb6
    have hlen' : ((kept.length : Int) + (rms.length : Int) == (n : Int)) = false := by simp; omega
    go_wp2
    have hb7 := HB6.out.set3 (.slice (some ⟨gk,0,none⟩) n n) (.slice (some ⟨gp,0,none⟩) n n) (.slice AR rms.length cR)
    have r0 := hb7.cell 0
    have r1 := hb7.cell 1
    have r2 := hb7.cell 2
    refine bodyPost_ret (v := .tuple #[.agg #[.slice (some ⟨gk,0,none⟩) n n,.slice (some ⟨gp,0,none⟩) n n,.slice AR rms.length cR],.bool false]) (by simp [results,Try.results22,go_sem,r0,r1,r2]) rfl ?_
    exact Divides.fin D.out (by simp) (by simp) hn HR.out ⟨fun h => (by cases h),fun h => absurd h.len hlen⟩ (fun h => (by cases h)) _ _ _
  have lR2 : rms.length ≤ 4096 := by omega
  have HL := Lib.hid hlen
  have hlen' : ((kept.length : Int) + (rms.length : Int) == (n : Int)) = true := by simp; omega
  have hlen2 : ((kept.length : Int) + (rms.length : Int) != (n : Int)) = false := by simp; omega
  clear hlen
  go_wp2
  go_loopw [35] (fun i wr => ∃ (k : Nat) (kp : List Bool) (pl : List Int),k ≤ kept.length ∧ i = .int .i64 k ∧ Hid (DivS w wr g gk gp n kp pl (.slice AR rms.length cR)) ∧ Hid (Marks n kept k kp pl)) (fun i _ => kept.length - (intOf i).toNat)
  case atStart => exact ⟨0,_,_,by omega,rfl,D,Marks.start n kept⟩
  case round =>
   obtain ⟨k,kp,pl,hk,rfl,D2,M⟩ := hrel
   clear D
   have q0 : wr.cell? ⟨g,0,none⟩ = some (.slice (some ⟨gk,0,none⟩) n n) := D2.out.bg.cell 0
   have q1 : wr.cell? ⟨g,1,none⟩ = some (.slice (some ⟨gp,0,none⟩) n n) := D2.out.bg.cell 1
   have ngk : ¬ g = gk := D2.out.bg.ne_ D2.out.bk (by decide)
   have ngp : ¬ g = gp := D2.out.bg.ne_ D2.out.bp (by decide)
   have nkp : ¬ gk = gp := D2.out.bk.ne_ D2.out.bp (by decide)
   have BD2 := Lib.hid D2.out.below
   by_cases hlt : k < kept.length
   · obtain ⟨b,off,x,hAK,hb,hx,hcx⟩ := IntsAt.at (HK.out.below IntE.stays BD2.out) hlt
     have hxn := S.out k x hlt hx
     obtain ⟨i,rfl⟩ := Int.eq_ofNat_of_zero_le hxn.1
     have hin : i < n := by have := hxn.2.1; omega
     clear hxn
     subst hAK
     obtain ⟨y1,hkp⟩ : ∃ y,kp[i]? = some y := ⟨_,List.getElem?_eq_getElem (by have := M.out.lk; omega)⟩
     obtain ⟨y2,hpl⟩ : ∃ y,pl[i]? = some y := ⟨_,List.getElem?_eq_getElem (by have := M.out.lp; omega)⟩
     have k0 := D2.out.kcell hkp
     have p0 := D2.out.pcell hpl
     have kf := D2.out.bk.free i
     have pf := D2.out.bp.free i
     clear hkp hpl
     have HX := Lib.hid hx
     clear hx
     go_wp2
     go_region
     go_wp2
     go_roundw
     case rel => exact ⟨k + 1,_,_,by omega,by go_num,((D2.out.setK i true).setP i k).drew,M.out.step HX.out hin S.out.incr⟩
     case measure => simp [intOf]; omega
   obtain rfl : k = kept.length := by omega
   have HI := Lib.hid (fun (i : Nat) (hi : i < n) => M.out.iff hi)
   go_wp2
   go_loopw [52] (fun i wr => ∃ (m : Nat) (pl : List Int),m ≤ rms.length ∧ i = .int .i64 m ∧ Hid (DivS w wr g gk gp n kp pl (.slice AR rms.length cR)) ∧ Hid (Places n kept rms m kp pl) ∧ Hid (∀ j,j < m → rmOk n kept rms j)) (fun i _ => rms.length - (intOf i).toNat)
   case atStart => exact ⟨0,pl,by omega,rfl,D2,Places.start M.out,fun j h => absurd h (by omega)⟩
   case round =>
    obtain ⟨m,pl,hm,rfl,D3,PL,OK⟩ := hrel
    clear D2 q0 q1 BD2
    rename_i wr0 wr
    have BD3 := Lib.hid D3.out.below
    have q0 : wr.cell? ⟨g,0,none⟩ = some (.slice (some ⟨gk,0,none⟩) n n) := D3.out.bg.cell 0
    have q1 : wr.cell? ⟨g,1,none⟩ = some (.slice (some ⟨gp,0,none⟩) n n) := D3.out.bg.cell 1
    have q2 : wr.cell? ⟨g,2,none⟩ = some (.slice AR rms.length cR) := D3.out.bg.cell 2
    by_cases hlt : m < rms.length
    · obtain ⟨r,hr⟩ : ∃ r,rms[m]? = some r := ⟨_,List.getElem?_eq_getElem hlt⟩
      obtain ⟨b,off,hAR,hb,e0,e1,e2,e3⟩ := RmsAt.get (HR.out.below RmE.stays BD3.out) hr
      subst hAR
      have hbg : g < wr.heap.size := D3.out.bg.lt
      have hbk : gk < wr.heap.size := D3.out.bk.lt
      have hbp : gp < wr.heap.size := D3.out.bp.lt
      have hb6 : w.heap.size < wr.heap.size := by have := D3.out.lg; omega
      have HRR := Lib.hid hr
      clear hr
      obtain ⟨st,rank,reason,ev⟩ := r
      dsimp only at e0 e1 e2 e3
      go_wp2_with fail
      go_upto_region 12 with fail
      go_cut [93] (fun c wx => ∃ bb : Bool,c = .bool bb ∧ Hid (bb = false ↔ rmOk n kept rms m) ∧ ∃ q,wx = (wr.alloc (.cells #[.int .i64 st,.int .i64 rank,.int .i64 reason,.int .i64 ev] 70)).drewN q)
      case first =>
       by_cases g1 : st < 0
       · go_quiet (fail)
         go_wp2_with fail
         go_meet
         exact ⟨true,rfl,⟨fun h => (by cases h),fun h => absurd (h _ HRR.out) (by simp only; omega)⟩,_,rfl⟩
       obtain ⟨i,rfl⟩ := Int.eq_ofNat_of_zero_le (show 0 ≤ st by omega)
       by_cases g2 : n ≤ i
       · go_quiet (fail)
         go_wp2_with fail
         go_meet
         exact ⟨true,rfl,⟨fun h => (by cases h),fun h => absurd (h _ HRR.out) (by simp only; omega)⟩,_,rfl⟩
       have g2' : decide (n ≤ i) = false := by simpa using g2
       have g3' : i < n := by omega
       obtain ⟨y1,hkp⟩ : ∃ y,kp[i]? = some y := ⟨_,List.getElem?_eq_getElem (by have := PL.out.lk; omega)⟩
       have k0 := D3.out.kcell hkp
       have HII := Lib.hid (HI.out i g3')
       have HKP := Lib.hid hkp
       clear hkp
       cases y1 with
       | true =>
         have NK := Lib.hid (HII.out.1.1 HKP.out)
         go_quiet (fail)
         go_wp2_with fail
         go_meet
         exact ⟨true,rfl,⟨fun h => (by cases h),fun h => absurd (h _ HRR.out) (by exact fun h => h.2.2.1 NK.out)⟩,_,rfl⟩
       | false =>
         have NK := Lib.hid (HII.out.2.1 HKP.out)
         by_cases hm0 : m = 0
         · subst hm0
           go_quiet (fail)
           go_wp2_with fail
           go_meet
           refine ⟨_,rfl,?_,_,rfl⟩
           rw [decide_eq_false_iff_not]
           exact ⟨fun h r hr => by
            rw [HRR.out] at hr; cases hr
            exact ⟨by simp only; omega,by simp only; omega,NK.out,by simp only; omega,fun _ h => absurd h (by omega)⟩,fun h => by have := (h _ HRR.out).2.2.2.1; simp only at this; omega⟩
         · obtain ⟨y,hy⟩ : ∃ y,rms[m - 1]? = some y := ⟨_,List.getElem?_eq_getElem (by omega)⟩
           obtain ⟨b',off',hA',_,y0,_,_,_⟩ := RmsAt.get (HR.out.below RmE.stays BD3.out) hy
           cases hA'
           obtain ⟨yst,yrank,yreason,yev⟩ := y
           dsimp only at y0
           have HY := Lib.hid hy
           clear hy
           have hm1 : 0 < m := by omega
           by_cases g4 : (i : Int) ≤ yst
           · have g4' : decide ((i : Int) ≤ yst) = true := by simpa using g4
             go_quiet (fail)
             go_wp2_with fail
             go_meet
             exact ⟨true,rfl,⟨fun h => (by cases h),fun h => absurd (h _ HRR.out) (by exact fun h => by have := h.2.2.2.2 _ hm1 HY.out; simp only at this; omega)⟩,_,rfl⟩
           · have g4' : decide ((i : Int) ≤ yst) = false := by simpa using g4
             go_quiet (fail)
             go_wp2_with fail
             go_meet
             refine ⟨_,rfl,?_,_,rfl⟩
             rw [decide_eq_false_iff_not]
             exact ⟨fun h r hr => by
              rw [HRR.out] at hr; cases hr
              exact ⟨by simp only; omega,by simp only; omega,NK.out,by simp only; omega,fun r' _ h => by rw [HY.out] at h; cases h; simp only; omega⟩,fun h => by have := (h _ HRR.out).2.2.2.1; simp only at this; omega⟩
      case rest =>
       obtain ⟨bb,rfl,HB,q,rfl⟩ := hcut
       have D4 := Lib.hid (D3.out.newD (.cells #[.int .i64 st,.int .i64 rank,.int .i64 reason,.int .i64 ev] 70) q)
       cases bb with
       | true =>
         obtain ⟨x0,x1,x2,hb6⟩ := D4.out.b6
         have p0 := hb6.cell 0
         have p1 := hb6.cell 1
         have p2 := hb6.cell 2
         have f0 := hb6.free 0
         have f1 := hb6.free 1
         have f2 := hb6.free 2
         have HB6 := Lib.hid hb6
         clear hb6
         have NO := Lib.hid (show ¬ DivOk n kept rms from fun h => by have := HB.out.2 (h.hr m hlt); cases this)
         go_wp2
         have hb7 := HB6.out.set3 (.slice (some ⟨gk,0,none⟩) n n) (.slice (some ⟨gp,0,none⟩) n n) (.slice (some ⟨b,off,none⟩) rms.length cR)
         have r0 := hb7.cell 0
         have r1 := hb7.cell 1
         have r2 := hb7.cell 2
         refine bodyPost_ret (v := .tuple #[.agg #[.slice (some ⟨gk,0,none⟩) n n,.slice (some ⟨gp,0,none⟩) n n,.slice (some ⟨b,off,none⟩) rms.length cR],.bool false]) (by simp [results,Try.results22,go_sem,r0,r1,r2]) rfl ?_
         exact Divides.fin D4.out PL.out.lk PL.out.lp hn HR.out ⟨fun h => (by cases h),fun h => absurd h NO.out⟩ (fun h => (by cases h)) _ _ _
       | false =>
         have OKM := Lib.hid (HB.out.1 rfl)
         have OKR := OKM.out _ HRR.out
         simp only at OKR
         obtain ⟨i,rfl⟩ := Int.eq_ofNat_of_zero_le OKR.1
         have hin : i < n := by have := OKR.2.1; omega
         have NK := Lib.hid OKR.2.2.1
         clear OKR
         obtain ⟨y2,hpl⟩ : ∃ y,pl[i]? = some y := ⟨_,List.getElem?_eq_getElem (by have := PL.out.lp; omega)⟩
         have c0 := D4.out.pcell hpl
         have cf := D4.out.bp.free i
         clear hpl
         have INC := Lib.hid (show ∀ (j : Nat) (x : Rm),j < m → rms[j]? = some x → x.st < (i : Int) from fun j => by
          have hall : ∀ t,t ≤ m → rmOk n kept rms t := fun t ht => by
           by_cases e : t = m
           · subst e; exact OKM.out
           · exact OK.out t (by omega)
          have key : ∀ (t : Nat) (x z : Rm),j + 1 + t ≤ m → rms[j]? = some x → rms[j + 1 + t]? = some z → x.st < z.st := fun t => by
           induction t with
           | zero => exact fun x z ht hx hz => (hall (j + 1) ht z hz).2.2.2.2 x (by omega) hx
           | succ t ih =>
             intro x z ht hx hz
             have hl := (List.getElem?_eq_some_iff.1 hz).1
             have h1 := ih x rms[j + 1 + t] (by omega) hx (List.getElem?_eq_getElem (by omega))
             have h2 := (hall (j + 1 + (t + 1)) ht z hz).2.2.2.2 rms[j + 1 + t] (by omega) (List.getElem?_eq_getElem (by omega))
             omega
          intro x hj hx
          have := key (m - j - 1) x _ (by omega) hx (by rw [show j + 1 + (m - j - 1) = m by omega]; exact HRR.out)
          simpa using this)
         go_wp2
         go_roundw
         case rel => exact ⟨m + 1,_,by omega,by go_num,D4.out.setP i m,PL.out.step HRR.out rfl hin NK.out INC.out,fun j hj => by
          by_cases e : j = m
          · subst e; exact OKM.out
          · exact OK.out j (by omega)⟩
         case measure => simp [intOf]; omega
    · obtain rfl : m = rms.length := by omega
      have DO := Lib.hid (show DivOk n kept rms from ⟨S.out,HL.out,fun j hj => OK.out j hj⟩)
      have FIN := Lib.hid (Sp.of_places DO.out HI.out PL.out)
      obtain ⟨x0,x1,x2,hb6⟩ := D3.out.b6
      have p0 := hb6.cell 0
      have p1 := hb6.cell 1
      have p2 := hb6.cell 2
      have f0 := hb6.free 0
      have f1 := hb6.free 1
      have f2 := hb6.free 2
      have HB6 := Lib.hid hb6
      clear hb6
      go_wp2
      have hb7 := HB6.out.set3 (.slice (some ⟨gk,0,none⟩) n n) (.slice (some ⟨gp,0,none⟩) n n) (.slice AR rms.length cR)
      have r0 := hb7.cell 0
      have r1 := hb7.cell 1
      have r2 := hb7.cell 2
      refine bodyPost_ret (v := .tuple #[.agg #[.slice (some ⟨gk,0,none⟩) n n,.slice (some ⟨gp,0,none⟩) n n,.slice AR rms.length cR],.bool true]) (by simp [results,Try.results22,go_sem,r0,r1,r2]) rfl ?_
      exact Divides.fin D3.out PL.out.lk PL.out.lp hn HR.out ⟨fun _ => DO.out,fun _ => rfl⟩ (fun _ => FIN.out) _ _ _
structure PrRight (au : Au) (forb unc : List Int) : Prop where
 ha : au.Right
 hf : setOk forb au.n forb.length
 hu : setOk unc 32 unc.length

set_option maxHeartbeats 400000 in
theorem problem_c (au : Au) (forb unc : List Int) (p : PrP) (w : World) (hp : PrAt w au forb unc p) :
 Calls Try.prog 21 #[prVal au forb unc p] w (Tells (PrRight au forb unc) w) := by
 have HA := Lib.hid (Automaton_c au p.a (w.alloc (.cells (prCells au forb unc p) 44)) (hp.au.below (Below.new _ _)))
 obtain ⟨al,m,mr,ed⟩ := au
 obtain ⟨⟨A1,c1,A2,c2,A3,c3⟩,AF,cF,AU,cU⟩ := p
 have HP := Lib.hid hp
 have lf : forb.length ≤ 140737488355328 := hp.lf
 have lu : unc.length ≤ 140737488355328 := hp.lu
 clear hp
 dsimp only [prVal,prCells,Au.val] at *
 go_enter Try.func21,Try.ntmps21
 go_wp2_with fail
 refine HA.out.mono ?_
 intro e w1 hs
 rcases hs.no1 with ⟨rfl,S,hb⟩ | ⟨rfl,S,hb⟩
 · go_wp2
   go_ret
   exact Tells.no (fun h => S.out h.ha) ((Below.new _ _).trans (hb.mono (by simp)))
 have q1 : w1.cell? ⟨w.heap.size,1,none⟩ = some (.int .i64 m) := old_cell hb (new_cell w _ [_,_,_,_,_,_] _ 1 rfl) (by simp)
 have q4 : w1.cell? ⟨w.heap.size,4,none⟩ = some (.slice AF forb.length cF) := old_cell hb (new_cell w _ [_,_,_,_,_,_] _ 4 rfl) (by simp)
 have q5 : w1.cell? ⟨w.heap.size,5,none⟩ = some (.slice AU unc.length cU) := old_cell hb (new_cell w _ [_,_,_,_,_,_] _ 5 rfl) (by simp)
 have BW : Hid (Below w.heap.size w w1) := (Below.new _ _).trans (hb.mono (by simp))
 clear hb
 go_wp2_with fail
 refine (set_c AF cF forb m _ (HP.out.hf.below IntE.stays BW.out) (by unfold maxLen; omega)).mono ?_
 intro e w2 hs
 rcases hs.no1 with ⟨rfl,S2,rfl⟩ | ⟨rfl,S2,rfl⟩
 · go_wp2
   go_ret
   exact Tells.no (fun h => S2.out h.hf) BW.out
 go_wp2_with fail
 refine (set_c AU cU unc 32 _ (HP.out.hu.below IntE.stays BW.out) (by unfold maxLen; omega)).mono ?_
 rintro e w2 ⟨r,rfl,hr,rfl⟩
 have HR := Lib.hid hr
 clear hr
 go_wp2
 go_ret
 exact ⟨r,rfl,by rw [HR.out]; exact ⟨fun h => ⟨S.out,S2.out,h⟩,fun h => h.hu⟩,BW.out⟩
def keepsS (forb unc mr kept dist : List Int) (es : List Ed) (i d : Int) : Prop :=
 i ∉ forb ∧ (¬ ∃ x,x ∈ es ∧ x.dst ∉ kept ∧ x.ev ∈ unc) ∧ (d = 0 → i ∈ mr) ∧ (d ≠ 0 → 0 < d ∧ ∃ x,x ∈ es ∧ ∃ (k : Nat) (d1 : Int),kept[k]? = some x.dst ∧ dist[k]? = some d1 ∧ d1 < d)
theorem keeps_iff {forb unc mr kept dist : List Int} {es : List Ed} {i d : Int} {s : Sp} {n : Nat} (ho : s.Of n kept) (hx : ∀ (i : Nat) r,r ∈ s.rm → r.st = (i : Int) → s.kp[i]? = some false) (hk : ∀ i : Nat,i < n → (s.kp[i]? = some true ↔ (i : Int) ∈ kept))
 (hes : ∀ x,x ∈ es → 0 ≤ x.dst ∧ x.dst < n) : keepsP forb unc mr s.kp s.pl dist es i d ↔ keepsS forb unc mr kept dist es i d := by
 have h1 : ∀ x,x ∈ es → (keeps1P s.kp unc x ↔ x.dst ∉ kept ∧ x.ev ∈ unc) := fun x hm => by
  obtain ⟨g0,g1⟩ := hes x hm
  obtain ⟨src,ev,dst⟩ := x
  simp only at g0 g1
  obtain ⟨t,rfl⟩ := Int.eq_ofNat_of_zero_le g0
  have ht : t < n := by omega
  have := hk t ht
  simp only [keeps1P,Int.toNat_natCast]
  rw [← this]
  rcases ho.all t ht with ⟨a,_⟩ | ⟨a,_⟩ <;> simp [a]
 have h2 : ∀ x,x ∈ es → (keeps2P s.kp s.pl dist d x ↔ ∃ (k : Nat) (d1 : Int),kept[k]? = some x.dst ∧ dist[k]? = some d1 ∧ d1 < d) := fun x hm => by
  obtain ⟨g0,g1⟩ := hes x hm
  obtain ⟨src,ev,dst⟩ := x
  simp only at g0 g1
  obtain ⟨t,rfl⟩ := Int.eq_ofNat_of_zero_le g0
  have ht : t < n := by omega
  simp only [keeps2P,Int.toNat_natCast]
  rcases ho.all t ht with ⟨a,k,b,c⟩ | ⟨a,_⟩
  · constructor
    · rintro ⟨_,k',d1,e1,e2,e3⟩
      have : k' = k := by rw [b] at e1; simp at e1; omega
      subst this
      exact ⟨k',d1,c,e2,e3⟩
    · rintro ⟨k',d1,e1,e2,e3⟩
      have : k' = k := by
       rcases Nat.lt_trichotomy k' k with h | h | h
       · have := ho.incr k' k _ _ h e1 c; omega
       · exact h
       · have := ho.incr k k' _ _ h c e1; omega
      subst this
      exact ⟨a,k',d1,b,e2,e3⟩
  · constructor
    · rintro ⟨h,_⟩; rw [a] at h; cases h
    · rintro ⟨k',d1,e1,_⟩
      have := (hk t ht).2 (List.mem_of_getElem? e1)
      rw [a] at this; cases this
 have h3 : (∃ x,x ∈ es ∧ keeps1P s.kp unc x) ↔ ∃ x,x ∈ es ∧ x.dst ∉ kept ∧ x.ev ∈ unc := ⟨fun ⟨x,a,b⟩ => ⟨x,a,(h1 x a).1 b⟩,fun ⟨x,a,b⟩ => ⟨x,a,(h1 x a).2 b⟩⟩
 have h4 : (∃ x,x ∈ es ∧ keeps2P s.kp s.pl dist d x) ↔ ∃ x,x ∈ es ∧ ∃ (k : Nat) (d1 : Int),kept[k]? = some x.dst ∧ dist[k]? = some d1 ∧ d1 < d := ⟨fun ⟨x,a,b⟩ => ⟨x,a,(h2 x a).1 b⟩,fun ⟨x,a,b⟩ => ⟨x,a,(h2 x a).2 b⟩⟩
 unfold keepsP keepsS
 rw [h3,h4]

structure KeptOk (au : Au) (forb unc kept dist : List Int) (rms : List Rm) : Prop where
 pr : PrRight au forb unc
 ld : dist.length = kept.length
 dv : DivOk au.n.toNat kept rms
 ks : ∀ (k : Nat) (i d : Int),kept[k]? = some i → dist[k]? = some d → keepsS forb unc au.mr kept dist (outOf au.ed i.toNat) i d
 rs : ∀ r,r ∈ rms → removesP forb unc au.mr rms (outOf au.ed r.st.toNat) r

structure CeP where
 AK : Option Addr
 cK : Nat
 AD : Option Addr
 cD : Nat
 AR : Option Addr
 cR : Nat
abbrev ceCells (kept dist : List Int) (rms : List Rm) (p : CeP) : Array Value := #[.slice p.AK kept.length p.cK,.slice p.AD dist.length p.cD,.slice p.AR rms.length p.cR]
abbrev ceVal (kept dist : List Int) (rms : List Rm) (p : CeP) : Value := .agg (ceCells kept dist rms p)
structure CeAt (w : World) (kept dist : List Int) (rms : List Rm) (p : CeP) : Prop where
 hk : IntsAt w p.AK kept
 hd : IntsAt w p.AD dist
 hr : RmsAt w p.AR rms
 lk : kept.length ≤ 4096
 ld : dist.length ≤ 4096
 lr : rms.length ≤ 140737488355328
theorem CeAt.below {w w' : World} {kept dist : List Int} {rms : List Rm} {p : CeP} (h : CeAt w kept dist rms p) (hb : Below w.heap.size w w') : CeAt w' kept dist rms p :=
 ⟨h.hk.below IntE.stays hb,h.hd.below IntE.stays hb,h.hr.below RmE.stays hb,h.lk,h.ld,h.lr⟩

structure KEnv (W : World) (H b5 : Nat) (P Q T : List Value) : Prop where
 p : ∀ (j : Nat) (v : Value),P[j]? = some v → W.cell? ⟨H,j,none⟩ = some v
 q : ∀ (j : Nat) (v : Value),Q[j]? = some v → W.cell? ⟨H + 1,j,none⟩ = some v
 t : ∀ (j : Nat) (v : Value),T[j]? = some v → W.cell? ⟨b5,j,none⟩ = some v
 z : H + 1 < W.heap.size
 z5 : b5 < W.heap.size
theorem KEnv.below {W W' : World} {H b5 : Nat} {P Q T : List Value} (h : KEnv W H b5 P Q T) (hb : Below W.heap.size W W') : KEnv W' H b5 P Q T :=
 ⟨fun j v hj => old_cell hb (h.p j v hj) (by have := h.z; omega),fun j v hj => old_cell hb (h.q j v hj) h.z,fun j v hj => old_cell hb (h.t j v hj) h.z5,Nat.lt_of_lt_of_le h.z hb.size,Nat.lt_of_lt_of_le h.z5 hb.size⟩
theorem outs_get {ed : List Ed} {n i : Nat} (h : i < n) : (outs ed n)[i]? = some (outOf ed i) := by simp [outs,h]
theorem RowsAt.row {ed : List Ed} {n i bo : Nat} {w : World} (h : RowsAt EdE 3 w (some ⟨bo,0,none⟩) (outs ed n)) (hi : i < n) :
 ∃ A c,bo < w.heap.size ∧ w.cell? ⟨bo,i,none⟩ = some (.slice A (outOf ed i).length c) ∧ (outOf ed i).length ≤ 140737488355328 ∧ EdsAt w A (outOf ed i) := by
 obtain ⟨b,off,x,A',c',hA,hlt,hx,hc,hl,hs⟩ := RowsAt.at h (i := i) (by simp [outs,hi])
 cases hA
 rw [outs_get hi] at hx; cases hx
 rw [Nat.zero_add] at hc
 exact ⟨A',c',hlt,hc,hl,hs⟩

set_option maxRecDepth 100000 in
set_option maxHeartbeats 2000000 in
theorem Kept_c (au : Au) (forb unc : List Int) (p : PrP) (kept dist : List Int) (rms : List Rm) (cp : CeP) (w : World) (hp : PrAt w au forb unc p) (hc : CeAt w kept dist rms cp) (lE : au.ed.length ≤ 1000000) :
 Calls Try.prog 8 #[prVal au forb unc p,ceVal kept dist rms cp] w (Tells (KeptOk au forb unc kept dist rms) w) := by
 have HP := Lib.hid hp
 have HC := Lib.hid hc
 have H1 := Lib.hid (problem_c au forb unc p ((w.alloc (.cells (prCells au forb unc p) 44)).alloc (.cells (ceCells kept dist rms cp) 47)) (hp.below ((Below.new _ _).alloc (by simp) _)))
 obtain ⟨al,m,mr,ed⟩ := au
 obtain ⟨⟨A1,c1,A2,c2,A3,c3⟩,AF,cF,AU,cU⟩ := p
 obtain ⟨AK,cK,AD,cD,AR,cR⟩ := cp
 have lk : kept.length ≤ 4096 := hc.lk
 have ld : dist.length ≤ 4096 := hc.ld
 have lr : rms.length ≤ 140737488355328 := hc.lr
 clear hp hc
 dsimp only [prVal,prCells,ceVal,ceCells] at *
 go_enter Try.func8,Try.ntmps8
 go_wp2_with fail
 refine H1.out.mono ?_
 intro e w1 hs
 have BW0 : Hid (Below w.heap.size w ((w.alloc (.cells #[.slice A1 al.length c1,.int .i64 m,.slice A2 mr.length c2,.slice A3 ed.length c3,.slice AF forb.length cF,.slice AU unc.length cU] 44)).alloc (.cells #[.slice AK kept.length cK,.slice AD dist.length cD,.slice AR rms.length cR] 47))) := (Below.new _ _).alloc (by simp) _
 rcases hs.no1 with ⟨rfl,S,hb⟩ | ⟨rfl,S,hb⟩
 · go_wp2
   go_ret
   exact Tells.no (fun h => S.out h.pr) (BW0.out.trans (hb.mono BW0.out.size))
 clear H1 hs
 have hsz : w.heap.size + 2 ≤ w1.heap.size := by have := hb.size; simp only [World.size_alloc] at this; omega
 have p0 : ∀ j v,[Value.slice A1 al.length c1,.int .i64 m,.slice A2 mr.length c2,.slice A3 ed.length c3,.slice AF forb.length cF,.slice AU unc.length cU][j]? = some v → w1.cell? ⟨w.heap.size,j,none⟩ = some v := fun j v h =>
  old_cell hb ((alloc_cell _ _ _ _ (by simp)).trans ((new_cell w _ [_,_,_,_,_,_] _ j rfl).trans h)) (by simp; omega)
 have q0 : ∀ j v,[Value.slice AK kept.length cK,.slice AD dist.length cD,.slice AR rms.length cR][j]? = some v → w1.cell? ⟨w.heap.size + 1,j,none⟩ = some v := fun j v h =>
  old_cell hb ((new_cell (w.alloc _) _ [_,_,_] _ j (by simp)).trans h) (by simp)
 have BW1 : Hid (Below w.heap.size w w1) := BW0.out.trans (hb.mono BW0.out.size)
 have P0 := p0 0 _ rfl
 have P1 := p0 1 _ rfl
 have P2 := p0 2 _ rfl
 have P3 := p0 3 _ rfl
 have P4 := p0 4 _ rfl
 have P5 := p0 5 _ rfl
 have Q0 := q0 0 _ rfl
 have Q1 := q0 1 _ rfl
 have Q2 := q0 2 _ rfl
 clear p0 q0 hb BW0
 by_cases hl : dist.length = kept.length
 rotate_left
 · have hl' : ((dist.length : Int) == (kept.length : Int)) = false := by simp; omega
   go_wp2
   go_ret
   exact Tells.no (fun h => hl h.ld) BW1.out
 have hl' : ((dist.length : Int) == (kept.length : Int)) = true := by simp; omega
 have hl2 : ((dist.length : Int) != (kept.length : Int)) = false := by simp; omega
 have HL := Lib.hid hl
 clear hl
 obtain ⟨n,rfl⟩ := Int.eq_ofNat_of_zero_le S.out.ha.n0
 have hn : n ≤ 4096 := by have := S.out.ha.n1; simp only at this; omega
 go_wp2_with fail
 refine (divide_c n AK cK kept AR cR rms w1 hn (HC.out.hk.below IntE.stays BW1.out) (HC.out.hr.below RmE.stays BW1.out) lk lr).mono ?_
 rintro e w2 ⟨⟨kp,pl,rm⟩,⟨Ak,ck,Ap,cp,Ar,cr⟩,r,rfl,hsr,hr,hs2,hb⟩
 simp only at hsr
 subst hsr
 have HR := Lib.hid hr
 have HS2 := Lib.hid hs2
 have B2 := Lib.hid hb
 have BW2 : Hid (Below w.heap.size w w2) := BW1.out.trans (hb.mono BW1.out.size)
 clear hr hs2
 have z2 : w1.heap.size ≤ w2.heap.size := hb.size
 have z20 : w.heap.size < w2.heap.size := by omega
 have z21 : w.heap.size + 1 < w2.heap.size := by omega
 have P0' := old_cell hb P0 (by omega)
 have P1' := old_cell hb P1 (by omega)
 have P2' := old_cell hb P2 (by omega)
 have P3' := old_cell hb P3 (by omega)
 have P4' := old_cell hb P4 (by omega)
 have P5' := old_cell hb P5 (by omega)
 have Q0' := old_cell hb Q0 (by omega)
 have Q1' := old_cell hb Q1 (by omega)
 have Q2' := old_cell hb Q2 (by omega)
 clear hb P0 P1 P2 P3 P4 P5 Q0 Q1 Q2
 cases r with
 | false =>
   go_wp2
   go_ret
   exact Tells.no (fun h => by have := HR.out.2 h.dv; cases this) (BW2.out.alloc BW2.out.size _)
 | true =>
   obtain ⟨hSp,hOf,hX⟩ := HS2.out rfl
   have SP := Lib.hid hSp
   have OF := Lib.hid hOf
   have HX := Lib.hid hX
   have DV := Lib.hid (HR.out.1 rfl)
   clear hSp hOf hX HS2 HR
   have BW3 : Hid (Below w.heap.size w (w2.alloc (.cells #[.slice Ak kp.length ck,.slice Ap pl.length cp,.slice Ar rm.length cr] 88))) := BW2.out.alloc BW2.out.size _
   go_wp2_with fail
   refine (outgoing_c n al mr ed ⟨A1,c1,A2,c2,A3,c3⟩ _ hn (HP.out.au.ed.below EdE.stays BW3.out) lE (fun x hx => ?_)).mono ?_
   · obtain ⟨j,hj,rfl⟩ := List.mem_iff_getElem.1 hx
     have := S.out.ha.ed j hj _ (List.getElem?_eq_getElem hj)
     exact ⟨this.1,this.2.1⟩
   rintro e w3 ⟨bo,rfl,hbo,hrows,hb3⟩
   have E3 : Hid (KEnv w3 w.heap.size w2.heap.size [Value.slice A1 al.length c1,.int .i64 n,.slice A2 mr.length c2,.slice A3 ed.length c3,.slice AF forb.length cF,.slice AU unc.length cU] [Value.slice AK kept.length cK,.slice AD dist.length cD,.slice AR rm.length cR] [Value.slice Ak kp.length ck,.slice Ap pl.length cp,.slice Ar rm.length cr]) := by
    refine Lib.hid (KEnv.below ⟨fun j v h => ?_,fun j v h => ?_,fun j v h => (new_cell w2 _ [_,_,_] _ j rfl).trans h,by simp; omega,by simp⟩ hb3)
    · rw [alloc_cell _ _ _ _ z20]
      match j,h with
      | 0,h => cases h; exact P0'
      | 1,h => cases h; exact P1'
      | 2,h => cases h; exact P2'
      | 3,h => cases h; exact P3'
      | 4,h => cases h; exact P4'
      | 5,h => cases h; exact P5'
    · rw [alloc_cell _ _ _ _ z21]
      match j,h with
      | 0,h => cases h; exact Q0'
      | 1,h => cases h; exact Q1'
      | 2,h => cases h; exact Q2'
   have BW4 : Hid (Below w.heap.size w w3) := BW3.out.trans (hb3.mono BW3.out.size)
   have ROWS := Lib.hid hrows
   have SP3 := Lib.hid (SP.out.below ((Below.new w2 (.cells #[.slice Ak kp.length ck,.slice Ap pl.length cp,.slice Ar rm.length cr] 88)).trans (hb3.mono (by simp))))
   clear hrows hb3 P0' P1' P2' P3' P4' P5' Q0' Q1' Q2' BW3
   have HES := Lib.hid (show ∀ (i : Nat) (x : Ed),x ∈ outOf ed i → 0 ≤ x.dst ∧ x.dst < (n : Int) from fun i x hx => by
    have hx' : x ∈ ed := (List.mem_filter.1 hx).1
    obtain ⟨j,hj,rfl⟩ := List.mem_iff_getElem.1 hx'
    have := S.out.ha.ed j hj _ (List.getElem?_eq_getElem hj)
    exact ⟨this.2.2.1,this.2.2.2.1⟩)
   have HKI := Lib.hid (show ∀ i : Nat,i < n → (kp[i]? = some true ↔ (i : Int) ∈ kept) from fun i hi => by
    rcases OF.out.all i hi with ⟨a,k,_,c⟩ | ⟨a,k,r,_,c,d⟩
    · simp only at a; simp [a,List.mem_of_getElem? c]
    · have hno : (i : Int) ∉ kept := by
       have := DV.out.hr k (List.getElem?_eq_some_iff.1 c).1 r c
       rw [d] at this; exact this.2.2.1
      simp only at a; simp [a,hno])
   have f0 := E3.out.q 0 _ rfl
   have z3 := E3.out.z
   go_wp2
   go_loopw [43] (fun i wr => ∃ k : Nat,k ≤ kept.length ∧ i = .int .i64 k ∧ Hid (Below w3.heap.size w3 wr) ∧ Hid (∀ (j : Nat) (i d : Int),j < k → kept[j]? = some i → dist[j]? = some d → keepsS forb unc mr kept dist (outOf ed i.toNat) i d)) (fun i _ => kept.length - (intOf i).toNat)
   case atStart => exact ⟨0,by omega,rfl,Below.refl _ _,fun j i d h => absurd h (by omega)⟩
   case round =>
    obtain ⟨k,hk,rfl,BR,HK⟩ := hrel
    have ER := Lib.hid (E3.out.below BR.out)
    have BW5 : Hid (Below w.heap.size w wr) := BW4.out.trans (BR.out.mono BW4.out.size)
    have p0 := ER.out.p 0 _ rfl
    have p1 := ER.out.p 1 _ rfl
    have p2 := ER.out.p 2 _ rfl
    have p3 := ER.out.p 3 _ rfl
    have p4 := ER.out.p 4 _ rfl
    have p5 := ER.out.p 5 _ rfl
    have q0 := ER.out.q 0 _ rfl
    have q1 := ER.out.q 1 _ rfl
    have q2 := ER.out.q 2 _ rfl
    have t0 := ER.out.t 0 _ rfl
    have t1 := ER.out.t 1 _ rfl
    have t2 := ER.out.t 2 _ rfl
    have zr := ER.out.z
    clear f0
    by_cases hlt : k < kept.length
    · obtain ⟨b,off,x,hAK,hbk,hx,hcx⟩ := IntsAt.at (HC.out.hk.below IntE.stays BW5.out) hlt
      have hxn := DV.out.hk k x hlt hx
      obtain ⟨i,rfl⟩ := Int.eq_ofNat_of_zero_le hxn.1
      have hin : i < n := by have := hxn.2.1; omega
      clear hxn
      simp only at hAK
      subst hAK
      obtain ⟨AE,cE,hbo',hrow,lEs,hEs⟩ := RowsAt.row (ROWS.out.below (RowE.stays EdE.stays) BR.out) hin
      have HX2 := Lib.hid hx
      have HEs := Lib.hid hEs
      clear hx hEs
      obtain ⟨d,hd⟩ : ∃ d,dist[k]? = some d := ⟨_,List.getElem?_eq_getElem (by have := HL.out; omega)⟩
      have HD := Lib.hid hd
      clear hd
      obtain ⟨hpi,hpl2⟩ : pl[i]? = some (k : Int) ∧ ∀ t : Nat,kp[t]? = some true → ∃ k : Nat,pl[t]? = some (k : Int) ∧ k < dist.length := by
       have key : ∀ t : Nat,kp[t]? = some true → ∃ k : Nat,pl[t]? = some (k : Int) ∧ kept[k]? = some (t : Int) := fun t ht => by
        have htn : t < n := by have := (List.getElem?_eq_some_iff.1 ht).1; have := OF.out.lk; simp only at this; omega
        rcases OF.out.all t htn with ⟨_,k,b,c⟩ | ⟨a,_⟩
        · exact ⟨k,b,c⟩
        · simp only at a; rw [ht] at a; cases a
       refine ⟨?_,fun t ht => ?_⟩
       · obtain ⟨k',a,b⟩ := key i ((HKI.out i hin).2 (List.mem_of_getElem? HX2.out))
         have : k' = k := by
          rcases Nat.lt_trichotomy k' k with h | h | h
          · have := OF.out.incr k' k _ _ h b HX2.out; omega
          · exact h
          · have := OF.out.incr k k' _ _ h HX2.out b; omega
         subst this; exact a
       · obtain ⟨k',a,b⟩ := key t ht
         exact ⟨k',a,by have := (List.getElem?_eq_some_iff.1 b).1; have := HL.out; omega⟩
      have HPI := Lib.hid hpi
      have HPL := Lib.hid hpl2
      clear hpi hpl2
      go_wp2
      go_still_tail 9,(by kernel_rfl)
      change wpList _ _ _ _ _ wr.drew
      have BWD := Lib.hid BW5.out.drew
      have BRD := Lib.hid BR.out.drew
      go_wp2_with fail
      refine (keeps_c ⟨al,n,mr,ed⟩ forb unc ⟨⟨A1,c1,A2,c2,A3,c3⟩,AF,cF,AU,cU⟩ ⟨kp,pl,rm⟩ ⟨Ak,ck,Ap,cp,Ar,cr⟩ AE cE (outOf ed i) i k AD cD dist d _ (HP.out.below BWD.out) (SP3.out.below BRD.out) n OF.out.lk OF.out.lp
       (HEs.out.below EdE.stays (Below.refl _ wr).drew) lEs (HC.out.hd.below IntE.stays BWD.out) ld S.out.hf.incr S.out.hu.incr S.out.ha.mr.incr hin HPI.out HD.out (HES.out i) HPL.out).mono ?_
      intro e w4 hs
      rcases hs.no1 with ⟨rfl,SK,hb⟩ | ⟨rfl,SK,hb⟩
      · go_wp2
        go_ret
        exact Tells.no (fun h => SK.out ((keeps_iff OF.out HX.out HKI.out (HES.out i)).2 (h.ks k i d HX2.out HD.out))) (BWD.out.trans (hb.mono BWD.out.size))
      · have SK2 := Lib.hid ((keeps_iff OF.out HX.out HKI.out (HES.out i)).1 SK.out)
        have B5 := Lib.hid hb
        clear hb
        go_wp2
        go_roundw
        case rel => exact ⟨k + 1,by omega,by go_num,BRD.out.trans (B5.out.mono BRD.out.size),fun j i' d' hj h1 h2 => by
         by_cases e : j = k
         · subst e
           rw [HX2.out] at h1; cases h1
           rw [HD.out] at h2; cases h2
           exact SK2.out
         · exact HK.out j i' d' (by omega) h1 h2⟩
        case measure => simp [intOf]; omega
    · obtain rfl : k = kept.length := by omega
      clear p0 p1 p2 p3 p4 p5 q0 q1 t0 t1 t2
      go_wp2
      obtain ⟨wo,rfl⟩ : ∃ wo : World,wo = wr := ⟨_,rfl⟩
      go_loopw [62] (fun i wx => ∃ m : Nat,m ≤ rm.length ∧ i = .int .i64 m ∧ Hid (Below wo.heap.size wo wx) ∧ Hid (∀ (j : Nat) (r : Rm),j < m → rm[j]? = some r → removesP forb unc mr rm (outOf ed r.st.toNat) r)) (fun i _ => rm.length - (intOf i).toNat)
      case atStart => exact ⟨0,by omega,rfl,Below.refl _ _,fun j r h => absurd h (by omega)⟩
      case round =>
       obtain ⟨m,hm,rfl,BX,HM⟩ := hrel
       have EX := Lib.hid (ER.out.below BX.out)
       have BW6 : Hid (Below w.heap.size w wr) := BW5.out.trans (BX.out.mono BW5.out.size)
       have BR6 : Hid (Below w3.heap.size w3 wr) := BR.out.trans (BX.out.mono BR.out.size)
       clear q2 zr
       have p0 := EX.out.p 0 _ rfl
       have p1 := EX.out.p 1 _ rfl
       have p2 := EX.out.p 2 _ rfl
       have p3 := EX.out.p 3 _ rfl
       have p4 := EX.out.p 4 _ rfl
       have p5 := EX.out.p 5 _ rfl
       have t0 := EX.out.t 0 _ rfl
       have t1 := EX.out.t 1 _ rfl
       have t2 := EX.out.t 2 _ rfl
       have zx := EX.out.z
       have zx0 : w.heap.size < wr.heap.size := by omega
       have zx5 := EX.out.z5
       by_cases hlt : m < rm.length
       · obtain ⟨r,hr⟩ : ∃ r,rm[m]? = some r := ⟨_,List.getElem?_eq_getElem hlt⟩
         obtain ⟨b,off,hAR,hbr,e0,e1,e2,e3⟩ := RmsAt.get (HC.out.hr.below RmE.stays BW6.out) hr
         simp only at hAR
         subst hAR
         have hrn := DV.out.hr m hlt r hr
         obtain ⟨st,rank,reason,ev⟩ := r
         obtain ⟨i,rfl⟩ := Int.eq_ofNat_of_zero_le hrn.1
         have hin : i < n := by have := hrn.2.1; simp only at this; omega
         clear hrn
         dsimp only at e0 e1 e2 e3
         obtain ⟨AE,cE,hbo',hrow,lEs,hEs⟩ := RowsAt.row (ROWS.out.below (RowE.stays EdE.stays) BR6.out) hin
         have HRR := Lib.hid hr
         have HEs := Lib.hid hEs
         clear hr hEs
         have BN0 := Lib.hid (Below.new wr (.cells #[.int .i64 (i : Int),.int .i64 rank,.int .i64 reason,.int .i64 ev] 70))
         have EW := Lib.hid (EX.out.below BN0.out)
         have x0 := new_cell wr 70 [.int .i64 (i : Int),.int .i64 rank,.int .i64 reason,.int .i64 ev] wr.heap.size 0 rfl
         have x1 := new_cell wr 70 [.int .i64 (i : Int),.int .i64 rank,.int .i64 reason,.int .i64 ev] wr.heap.size 1 rfl
         have x2 := new_cell wr 70 [.int .i64 (i : Int),.int .i64 rank,.int .i64 reason,.int .i64 ev] wr.heap.size 2 rfl
         have x3 := new_cell wr 70 [.int .i64 (i : Int),.int .i64 rank,.int .i64 reason,.int .i64 ev] wr.heap.size 3 rfl
         have hrow' := old_cell BN0.out hrow hbo'
         go_wp2
         clear p0 p1 p2 p3 p4 p5 t0 t1 t2 hrow e0 e1 e2 e3
         generalize hW : wr.alloc (.cells #[.int .i64 (i : Int),.int .i64 rank,.int .i64 reason,.int .i64 ev] 70) = W at *
         clear hW
         have p0 := EW.out.p 0 _ rfl
         have p1 := EW.out.p 1 _ rfl
         have p2 := EW.out.p 2 _ rfl
         have p3 := EW.out.p 3 _ rfl
         have p4 := EW.out.p 4 _ rfl
         have p5 := EW.out.p 5 _ rfl
         have t0 := EW.out.t 0 _ rfl
         have t1 := EW.out.t 1 _ rfl
         have t2 := EW.out.t 2 _ rfl
         go_still_tail 8,(by kernel_rfl)
         change wpList _ _ _ _ _ (World.drew _)
         have BN : Hid (Below wr.heap.size wr W.drew) := BN0.out.drew
         have BWD : Hid (Below w.heap.size w W.drew) := BW6.out.trans (BN.out.mono BW6.out.size)
         go_wp2_with fail
         refine (removes_c ⟨al,n,mr,ed⟩ forb unc ⟨⟨A1,c1,A2,c2,A3,c3⟩,AF,cF,AU,cU⟩ ⟨kp,pl,rm⟩ ⟨Ak,ck,Ap,cp,Ar,cr⟩ AE cE (outOf ed i) ⟨i,rank,reason,ev⟩ _ (HP.out.below BWD.out) (SP3.out.below (BR6.out.trans (BN.out.mono BR6.out.size))) n kept OF.out HX.out
          (HEs.out.below EdE.stays BN.out) lEs S.out.hf.incr S.out.hu.incr S.out.ha.mr.incr (HES.out i)).mono ?_
         intro e w4 hs
         rcases hs.no1 with ⟨rfl,SK,hb⟩ | ⟨rfl,SK,hb⟩
         · go_wp2
           go_ret
           exact Tells.no (fun h => SK.out (h.rs _ (List.mem_of_getElem? HRR.out))) (BWD.out.trans (hb.mono BWD.out.size))
         · have B5 := Lib.hid hb
           clear hb
           go_wp2
           go_roundw
           case rel => exact ⟨m + 1,by omega,by go_num,BX.out.trans ((BN.out.trans (B5.out.mono BN.out.size)).mono BX.out.size),fun j r hj h1 => by
            by_cases e : j = m
            · subst e
              rw [HRR.out] at h1; cases h1
              exact SK.out
            · exact HM.out j r (by omega) h1⟩
           case measure => simp [intOf]; omega
       · obtain rfl : m = rm.length := by omega
         go_wp2
         go_ret
         exact Tells.yes ⟨S.out,HL.out,by simpa using DV.out,fun k i d h1 h2 => HK.out k i d (List.getElem?_eq_some_iff.1 h1).1 h1 h2,fun r hr => by
          obtain ⟨j,hj,rfl⟩ := List.mem_iff_getElem.1 hr
          exact HM.out j _ hj (List.getElem?_eq_getElem hj)⟩ BW6.out
end Go.Proofs.Ytccfcaejlohahaa
