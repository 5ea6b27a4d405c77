/-
  What the row leans on.
-/
import Derived.Test.YtkifgffhoenaoaaDoorBas01
import Derived.Test.YtkifgffhoenaoaaDoorQax03
import Derived.Test.YtkifgffhoenaoaaDoorQax04
import Derived.Test.YtkifgffhoenaoaaDoorQax01
import Derived.Test.YtkifgffhoenaoaaDoorBas04
set_option linter.unusedSimpArgs false
set_option linter.unusedVariables false
namespace Go.Proofs.YtkifgffhoenaoaaDoor
open Go.RowKit
set_option maxRecDepth 100000
section

structure Reps (q : Au) (c : List Int) (i : Nat) (rp : List Nat) : Prop where
 at_ : ∀ (d r : Nat),rp[d]? = some r → r < i ∧ c.getD r 0 = (d : Int) + 1
 le : ∀ j,j < i → c.getD j 0 ≤ rp.length
section
variable {q : Au} {c : List Int} {i m : Nat} {rp : List Nat}
theorem Reps.start : Reps q c 0 [] := ⟨fun d r h => by simp at h,fun j h => by omega⟩
theorem Reps.skip (h : Reps q c i rp) (hc : c.getD i 0 ≤ rp.length) : Reps q c (i + 1) rp :=
 ⟨fun d r hd => by have := h.at_ d r hd; exact ⟨by omega,this.2⟩,fun j hj => by
  by_cases e : j = i
  · subst e; exact hc
  · exact h.le j (by omega)⟩
theorem Reps.push (h : Reps q c i rp) (hm : Mx q c m) (hi : i < q.n.toNat) (hc : ¬ c.getD i 0 ≤ rp.length) : c.getD i 0 = (rp.length : Int) + 1 ∧ Reps q c (i + 1) (rp ++ [i]) := by
 have e : c.getD i 0 = (rp.length : Int) + 1 := by
  by_cases h2 : c.getD i 0 ≤ (rp.length : Int) + 1
  · omega
  · obtain ⟨j,hj,hv⟩ := hm.can i (c.getD i 0 - 2).toNat hi (by omega);have := h.le j hj;omega
 refine ⟨e,fun d r hd => ?_,fun j hj => ?_⟩
 · rcases getElem?_snocN hd with g | ⟨g,rfl⟩
   · have := h.at_ d r g; exact ⟨by omega,this.2⟩
   · exact ⟨by omega,by rw [e,g]⟩
 · rw [List.length_append];by_cases e' : j = i
   · subst e'; rw [e]; simp
   · have := h.le j (by omega);simp only [List.length_cons,List.length_nil];omega
where
 getElem?_snocN {l : List Nat} {w : Nat} {i : Nat} {v : Nat} (h : (l ++ [w])[i]? = some v) : l[i]? = some v ∨ i = l.length ∧ v = w := getElem?_snoc h
theorem Reps.len (h : Reps q c i rp) : rp.length ≤ i := by
 have := sub_len rp (List.range i) (by
  rw [List.nodup_iff_pairwise_ne,List.pairwise_iff_getElem];intro a b ha hb hab e;have h1 := (h.at_ a _ (List.getElem?_eq_getElem ha)).2;have h2 := (h.at_ b _ (List.getElem?_eq_getElem hb)).2;rw [e] at h1;omega) (fun x hx => by
  obtain ⟨d,hd,rfl⟩ := List.mem_iff_getElem.1 hx;exact List.mem_range.2 (h.at_ d _ (List.getElem?_eq_getElem hd)).1)
 simpa using this
end
def clQ (c : List Int) (x : Int) : Int := clsI c x - 1
def nxQ (q : Au) (c : List Int) (rp : List Nat) (d : Nat) (e : Int) : Int := clQ c (nextV q.ed (rp.getD d 0) e)
def mkQ (q : Au) (rp : List Nat) : List Int := ((List.range rp.length).filter fun d => decide (((rp.getD d 0 : Nat) : Int) ∈ q.mr)).map fun (d : Nat) => (d : Int)
def quotV (q : Au) (c : List Int) (rp : List Nat) : Au := ⟨q.al,rp.length,mkQ q rp,rowsG q.al (nxQ q c rp) rp.length⟩
theorem mem_mkQ {q : Au} {rp : List Nat} (d : Nat) : (d : Int) ∈ mkQ q rp ↔ d < rp.length ∧ ((rp.getD d 0 : Nat) : Int) ∈ q.mr := by
 unfold mkQ
 simp only [List.mem_map,List.mem_filter,List.mem_range,decide_eq_true_eq];constructor
 · rintro ⟨j,h,e⟩;obtain rfl : j = d := by omega
   exact h
 · exact fun h => ⟨d,h,rfl⟩
theorem getD_snoc_lt {l : List Nat} {x : Nat} {d : Nat} (h : d < l.length) : (l ++ [x]).getD d 0 = l.getD d 0 := by
 rw [List.getD_eq_getElem?_getD,List.getD_eq_getElem?_getD,List.getElem?_append_left h]
theorem getD_snoc_eq (l : List Nat) (x : Nat) : (l ++ [x]).getD l.length 0 = x := by
 rw [List.getD_eq_getElem?_getD,List.getElem?_append_right (Nat.le_refl _),Nat.sub_self]; rfl
theorem mkQ_snoc (q : Au) (rp : List Nat) (x : Nat) : mkQ q (rp ++ [x]) = if ((x : Nat) : Int) ∈ q.mr then mkQ q rp ++ [(rp.length : Int)] else mkQ q rp := by
 unfold mkQ
 rw [List.length_append,List.length_cons,List.length_nil,List.range_succ,List.filter_append,List.map_append];have e : (List.range rp.length).filter (fun d => decide ((((rp ++ [x]).getD d 0 : Nat) : Int) ∈ q.mr)) = (List.range rp.length).filter (fun d => decide (((rp.getD d 0 : Nat) : Int) ∈ q.mr)) :=
  List.filter_congr fun d hd => by rw [getD_snoc_lt (List.mem_range.1 hd)]
 rw [e,List.filter_cons,getD_snoc_eq];by_cases h : ((x : Nat) : Int) ∈ q.mr
 · simp [h]
 · simp [h]
theorem mkQ_len (q : Au) (rp : List Nat) : (mkQ q rp).length ≤ rp.length := by
 unfold mkQ
 rw [List.length_map];exact Nat.le_trans (List.length_filter_le _ _) (by simp)
theorem rowsQ_snoc (q : Au) (c : List Int) (rp : List Nat) (x : Nat) : rowsG q.al (nxQ q c (rp ++ [x])) (rp ++ [x]).length = rowsG q.al (nxQ q c rp) rp.length ++ rowG q.al rp.length (fun e => clQ c (nextV q.ed x e)) := by
 rw [List.length_append,List.length_cons,List.length_nil,rowsG_succ];congr 1
 · unfold rowsG
   refine fmapCongr fun i hi => ?_;have : nxQ q c (rp ++ [x]) i = nxQ q c rp i := by funext e; unfold nxQ; rw [getD_snoc_lt (List.mem_range.1 hi)]
   rw [this]
 · have : nxQ q c (rp ++ [x]) rp.length = fun e => clQ c (nextV q.ed x e) := by funext e; unfold nxQ; rw [getD_snoc_eq]
   rw [this]
where
 fmapCongr {α β : Type} {f g : α → List β} {l : List α} (h : ∀ x,x ∈ l → f x = g x) : l.flatMap f = l.flatMap g := by
  induction l with
  | nil => rfl
  | cons a l ih => rw [List.flatMap_cons,List.flatMap_cons,h a (by simp),ih fun x hx => h x (by simp [hx])]
structure QOk (q : Au) (gd : Nat → Bool) (c : List Int) (m : Nat) (rp : List Nat) : Prop where
 rt : q.Right
 hgd : ∀ s : Nat,s < q.n.toNat → (gd s = true ↔ Good q s)
 pre : Pre q gd c
 stb : Stb q gd c
 mx : Mx q c m
 rp : Reps q c q.n.toNat rp
section
variable {q : Au} {gd : Nat → Bool} {c : List Int} {m : Nat} {rp : List Nat}
theorem QOk.cl_cases (h : QOk q gd c m rp) {x : Int} (hx : x = -1 ∨ 0 ≤ x ∧ x < q.n) : clQ c x = -1 ∧ ¬ Good q x ∨ 0 ≤ clQ c x ∧ clQ c x < rp.length ∧ Good q x := by
 rcases hx with rfl | hx
 · exact .inl ⟨rfl,good_neg h.rt (by omega)⟩
 · unfold clQ clsI
   rw [if_pos hx.1];have hg := h.hgd x.toNat (by omega);rw [Int.toNat_of_nonneg hx.1] at hg;have hz := h.pre.z x.toNat (by omega);have h0 := (h.mx.rg x.toNat (by omega)).1;by_cases e : c.getD x.toNat 0 = 0
   · exact .inl ⟨by omega,fun g => by have := hz.1 e; rw [hg.2 g] at this; cases this⟩
   · have := h.rp.le x.toNat (by omega);exact .inr ⟨by omega,by omega,hg.1 (btrue fun hb => e (hz.2 hb))⟩
theorem QOk.rep (h : QOk q gd c m rp) {d : Nat} (hd : d < rp.length) : ((rp.getD d 0 : Nat) : Int) < q.n ∧ clQ c ((rp.getD d 0 : Nat) : Int) = (d : Int) := by
 have hg : rp[d]? = some (rp.getD d 0) := by rw [List.getD_eq_getElem?_getD,List.getElem?_eq_getElem hd]; rfl
 obtain ⟨h1,h2⟩ := h.rp.at_ d _ hg;have h0 := h.rt.n0;refine ⟨by omega,?_⟩;unfold clQ clsI
 rw [if_pos (Int.natCast_nonneg _),Int.toNat_natCast,h2];omega
theorem QOk.res (h : QOk q gd c m rp) {x y : Int} (hx : x = -1 ∨ 0 ≤ x ∧ x < q.n) (hy : y = -1 ∨ 0 ≤ y ∧ y < q.n) (e : clQ c x = clQ c y) : Res q x y := fun w =>
 h.stb.res h.rt h.hgd h.pre w x y hx hy (by unfold clQ at e; omega)
theorem QOk.cl_res (h : QOk q gd c m rp) {x y : Int} (hx : x = -1 ∨ 0 ≤ x ∧ x < q.n) (hy : y = -1 ∨ 0 ≤ y ∧ y < q.n) (e : Res q x y) : clQ c x = clQ c y := by
 unfold clQ
 rw [h.pre.clsI_res h.rt h.hgd hx hy e]
theorem QOk.next_rg (h : QOk q gd c m rp) (s e : Int) : nextV q.ed s e = -1 ∨ 0 ≤ nextV q.ed s e ∧ nextV q.ed s e < q.n := Pre.key.next_rg h.rt s e
theorem QOk.run_rg (h : QOk q gd c m rp) : ∀ (w : List Int) (x : Int),(x = -1 ∨ 0 ≤ x ∧ x < q.n) → (runV q.ed x w = -1 ∨ 0 ≤ runV q.ed x w ∧ runV q.ed x w < q.n)
 | [],x,hx => hx
 | e :: w,x,hx => by
   rw [runV];rcases hx with rfl | hx
   · rw [if_neg (by omega)]; exact .inl rfl
   · rw [if_pos hx.1];exact h.run_rg w _ (h.next_rg x e)
theorem QOk.right (h : QOk q gd c m rp) : (quotV q c rp).Right := by
 have hl := h.rp.len;have h1 := h.rt.n1;refine rowsG_right h.rt.al (by omega) (fun d e hd he => ?_) (setOk_of ?_ fun x hx => ?_)
 · unfold nxQ
   rcases h.cl_cases (h.next_rg ((rp.getD d 0 : Nat) : Int) e) with g | g <;> omega
 · intro a b x y hab hx hy;have hpw : (mkQ q rp).Pairwise (· < ·) := by
    unfold mkQ
    rw [List.pairwise_map];exact (List.Pairwise.filter _ List.pairwise_lt_range).imp fun h => by omega
   obtain ⟨ha,hax⟩ := List.getElem?_eq_some_iff.1 hx;obtain ⟨hb,hbx⟩ := List.getElem?_eq_some_iff.1 hy;have := List.pairwise_iff_getElem.1 hpw a b ha hb hab;rw [hax,hbx] at this;exact this
 · unfold mkQ at hx
   simp only [List.mem_map,List.mem_filter,List.mem_range] at hx;obtain ⟨d,⟨hd,_⟩,rfl⟩ := hx;omega
theorem QOk.run (h : QOk q gd c m rp) (w : List Int) {x : Int} (hx : x = -1 ∨ 0 ≤ x ∧ x < q.n) : runV (quotV q c rp).ed (clQ c x) w = clQ c (runV q.ed x w) := by
 rw [← h.rt.fold w x (hx.imp id fun g => g.1)];refine rowsG_run h.right (nextV q.ed) (clQ c) (fun s => s = -1 ∨ (0 ≤ s ∧ s < q.n) ∨ clQ c s = -1 ∧ s < -1) (fun s e hs => ?_) (fun s => ?_) (fun s e hs h0 he => ?_) (fun s e hs h0 => ?_) (fun s e hs he => ?_) w x (hx.imp id .inl)
 · rcases h.next_rg s e with g | g
   · exact .inl g
   · exact .inr (.inl g)
 · by_cases hs : s = -1 ∨ 0 ≤ s ∧ s < q.n
   · rcases h.cl_cases hs with g | g
     · exact .inl g.1
     · exact .inr ⟨g.1,g.2.1⟩
   · left
     unfold clQ clsI
     by_cases h0 : 0 ≤ s
     · rw [if_pos h0];have hlen := h.pre.len;rw [List.getD_eq_getElem?_getD,List.getElem?_eq_none (by omega)];rfl
     · rw [if_neg h0]; rfl
 · have hs' : s = -1 ∨ 0 ≤ s ∧ s < q.n := by
    rcases hs with g | g | g
    · exact .inl g
    · exact .inr g
    · omega
   rcases h.cl_cases hs' with g | g
   · omega
   have hs0 : 0 ≤ s := by
    rcases hs' with rfl | k
    · have : clQ c (-1) = -1 := rfl;omega
    · exact k.1
   obtain ⟨r1,r2⟩ := h.rep (d := (clQ c s).toNat) (by omega);rw [Int.toNat_of_nonneg g.1] at r2;have hr := h.res (.inr ⟨Int.natCast_nonneg _,r1⟩) hs' r2;have hn := h.cl_res (h.next_rg _ e) (h.next_rg s e) (hr.next (Int.natCast_nonneg _) hs0 e);have e1 : nxQ q c rp (clQ c s).toNat e = clQ c (nextV q.ed s e) := hn;rw [e1];rcases h.cl_cases (h.next_rg s e) with k | k
   · rw [k.1]; rfl
   · rw [if_pos k.1]
 · rcases h.cl_cases (h.next_rg s e) with k | k
   · exact k.1
   · exfalso
     have hs' : 0 ≤ s ∧ s < q.n := by
      rcases hs with g | g | g
      · subst g;rw [h.rt.next_neg] at k;exact absurd k.2.2 (good_neg h.rt (by omega))
      · exact g
      · rcases h.rt.next_cases s e with g' | ⟨_,_,y,hy,rfl,_⟩
        · rw [g'] at k;exact absurd k.2.2 (good_neg h.rt (by omega))
        · obtain ⟨j,hj,rfl⟩ := List.mem_iff_getElem.1 hy;have := (h.rt.ed j hj _ (List.getElem?_eq_getElem hj)).1;omega
     rcases h.cl_cases (.inr hs') with g | g
     · obtain ⟨w,hw⟩ := k.2.2;exact g.2 ⟨e :: w,by rw [runV,if_pos hs'.1]; exact hw⟩
     · omega
 · rw [h.rt.next_out he]; rfl
theorem QOk.mark (h : QOk q gd c m rp) {x : Int} (hx : x = -1 ∨ 0 ≤ x ∧ x < q.n) : clQ c x ∈ (quotV q c rp).mr ↔ x ∈ q.mr := by
 rcases h.cl_cases hx with g | g
 · rw [g.1];exact ⟨fun hm => by have := (h.right.mem hm).1; omega,fun hm => absurd ⟨[],hm⟩ g.2⟩
 · obtain ⟨r1,r2⟩ := h.rep (d := (clQ c x).toNat) (by omega);rw [Int.toNat_of_nonneg g.1] at r2;have hr := h.res (.inr ⟨Int.natCast_nonneg _,r1⟩) hx r2;have e : clQ c x = (((clQ c x).toNat : Nat) : Int) := (Int.toNat_of_nonneg g.1).symm;rw [e];show _ ∈ mkQ q rp ↔ _
   rw [mem_mkQ];exact ⟨fun k => (hr []).1 k.2,fun k => ⟨by omega,(hr []).2 k⟩⟩
theorem QOk.isMin (h : QOk q gd c m rp) (hn : 0 < q.n) (h0 : c.getD 0 0 ≠ 0) : IsMin (canonV (quotV q c rp)) (fun w => rn q w ∈ q.mr) := by
 have hst : q.st = 0 := by unfold Au.st; rw [if_neg (by omega)]
 have hz : (0 : Int) = -1 ∨ 0 ≤ (0 : Int) ∧ (0 : Int) < q.n := .inr ⟨Int.le_refl _,hn⟩;have c0 : clQ c 0 = 0 := by
  have h1 := (h.mx.rg 0 (by omega)).1;unfold clQ clsI
  rw [if_pos (Int.le_refl _)];show c.getD 0 0 - 1 = 0
  by_cases e : c.getD 0 0 = 1
  · omega
  · obtain ⟨j,hj,_⟩ := h.mx.can 0 (c.getD 0 0 - 2).toNat (by omega) (by omega);omega
 have hrl : 0 < rp.length := by
  rcases h.cl_cases hz with g | g
  · omega
  · omega
 have hqst : (quotV q c rp).st = clQ c 0 := by
  rw [c0];unfold Au.st
  rw [if_neg];show ¬ ((rp.length : Nat) : Int) = 0
  omega
 have hlang : ∀ w,rn (quotV q c rp) w ∈ (quotV q c rp).mr ↔ rn q w ∈ q.mr := fun w => by
  unfold rn
  rw [hqst,hst,h.run w hz];exact h.mark (h.run_rg w 0 hz)
 have hall : ∀ s : Int,0 ≤ s → s < (quotV q c rp).n → ∃ x,(0 ≤ x ∧ x < q.n) ∧ clQ c x = s := fun s h0 h1 => by
  have h1' : s < ((rp.length : Nat) : Int) := h1;obtain ⟨r1,r2⟩ := h.rep (d := s.toNat) (by omega);exact ⟨_,⟨Int.natCast_nonneg _,r1⟩,by rw [r2,Int.toNat_of_nonneg h0]⟩
 refine (canon_isMin h.right (by show (0 : Int) < ((rp.length : Nat) : Int); omega) (fun s h0 h1 => ?_) (fun s t h0 h1 k0 k1 he => ?_)).congr hlang
 · obtain ⟨x,hx,rfl⟩ := hall s h0 h1;rcases h.cl_cases (.inr hx) with g | g
   · omega
   · obtain ⟨w,hw⟩ := g.2.2;exact ⟨w,by rw [h.run w (.inr hx)]; exact (h.mark (h.run_rg w x (.inr hx))).2 hw⟩
 · obtain ⟨x,hx,rfl⟩ := hall s h0 h1;obtain ⟨y,hy,rfl⟩ := hall t k0 k1;refine h.cl_res (.inr hx) (.inr hy) fun w => ?_;have := he w;rw [h.run w (.inr hx),h.run w (.inr hy),h.mark (h.run_rg w x (.inr hx)),h.mark (h.run_rg w y (.inr hy))] at this;exact this
end
end
theorem Mx.le {q : Au} {c : List Int} {m : Nat} (h : Mx q c m) : m ≤ q.n.toNat := (pigeon (fun s => (c.getD s 0).toNat - 1) m q.n.toNat (fun x hx => by
 obtain ⟨s,hs,hsx⟩ := h.su x hx;exact ⟨s,hs,by show (c.getD s 0).toNat - 1 = x; omega⟩)).1
def GivesMn (al : List Int) (L : List Int → Prop) (w : World) (e : Ending) (w' : World) : Prop := ∃ m p',e = .returned (m.val p') ∧ (SepW w (eAu m p') w') ∧ Hid (Lens m) ∧ Hid (IsMin m L) ∧ m.al = al
set_option maxHeartbeats 16000000 in
theorem minimal9_c (a : Au) (p : AuP) (w : World) (hr : a.Right) (hA : Au.At w a p) (hN : p.A1 = none → p.c1 = 0) :
 Calls Tryd.prog 26 #[a.val p] w (GivesMn a.al (fun u => rn a u ∈ a.mr) w) := by
 have HR := Lib.hid hr;have HA := Lib.hid hA;have HAN : Hid (p.A1 = none → a.al = [] ∧ p.c1 = 0) := fun h => by
  refine ⟨?_,hN h⟩;cases hal : a.al with
  | nil => rfl
  | cons x l =>
    obtain ⟨b,off,h2,_⟩ := hA.al (by rw [hal]; simp);rw [h] at h2;cases h2
 have h0 := hr.n0;have hn := hr.n1;have hal : a.al.length ≤ 32 := by simpa using hr.al.short
 have hml : a.mr.length ≤ 4096 := by have := hr.mr.short; omega
 have HEM : Hid ((∀ u,¬ rn a u ∈ a.mr) → IsMin ⟨a.al,0,[],[]⟩ (fun u => rn a u ∈ a.mr)) := fun h => empty_isMin hr.al h;obtain ⟨L,hL⟩ : ∃ L : List Int → Prop,L = fun u => rn a u ∈ a.mr := ⟨_,rfl⟩
 rw [← hL] at HEM ⊢;have HLE : Hid (∀ u,L u ↔ rn a u ∈ a.mr) := by rw [hL]; exact fun u => Iff.rfl
 clear hL;obtain ⟨al,n,mr,ed⟩ := a;obtain ⟨A1,c1,A2,c2,A3,c3⟩ := p;(try dsimp only [Au.val] at *);obtain ⟨N,rfl⟩ := Int.eq_ofNat_of_zero_le h0;clear hr hA h0 hN;go_enter Tryd.func26,Tryd.ntmps26
 go_upto_region 1 with fail
 refine wp_world (fun W => Sep w.heap.size w [eBlk (w.heap.size + 1) 35 [.slice none 0 0,.int .i64 0,.slice none 0 0,.slice none 0 0],eBlk w.heap.size 35 [.slice A1 al.length c1,.int .i64 ↑N,.slice A2 mr.length c2,.slice A3 ed.length c3]] W) ?_ fun W S => ?_
 · exact ((Sep.here w).alloc' _ [_,_,_,_] rfl rfl).alloc' _ [_,_,_,_] rfl (by simp)
 have S0 := Lib.hid S;clear S;have a0 := ckC S0.out 1 rfl 0 rfl;have a1 := ckC S0.out 1 rfl 1 rfl;have a2 := ckC S0.out 1 rfl 2 rfl;have a3 := ckC S0.out 1 rfl 3 rfl;by_cases hz : N = 0
 · have EMP : Hid (IsMin ⟨al,0,[],[]⟩ L) := HEM.out fun u => by
    have e : (⟨al,↑N,mr,ed⟩ : Au).st = -1 := by unfold Au.st; rw [if_pos (by simp only; omega)]
    have e2 : rn ⟨al,↑N,mr,ed⟩ u = -1 := by unfold rn; rw [e,runV_neg _ (by omega)]
    rw [e2];exact fun h => by have := (HR.out.mem h).1; omega
   have hq : ((N : Int) == 0) = true := by simpa using hz
   clear hz;go_wp2_with fail
   refine (Empty_c A1 c1 al W (HA.out.below S0.out.below).al (by omega) HAN.out).mono ?_;rintro e w5 ⟨AE,cE,rfl,HO,hb⟩;have S5 : (SepW w [eInts al (.slice AE al.length cE),eBlk (w.heap.size + 1) 35 [.slice none 0 0,.int .i64 0,.slice none 0 0,.slice none 0 0],eBlk w.heap.size 35 [.slice A1 al.length c1,.int .i64 ↑N,.slice A2 mr.length c2,.slice A3 ed.length c3]] w5) := S0.out.newI HO.out hb;clear hb HO S0;have SZ : (SepW w [eInts al (.slice AE al.length cE),eBlk (w.heap.size + 1) 35 [.slice AE al.length cE,.int .i64 0,.slice none 0 0,.slice none 0 0],eBlk w.heap.size 35 [.slice A1 al.length c1,.int .i64 ↑N,.slice A2 mr.length c2,.slice A3 ed.length c3]] _) := ((((S5.out.set 1 rfl 0 (.slice AE al.length cE)).set 1 rfl 1 (.int .i64 0)).set 1 rfl 2 (.slice none 0 0)).set 1 rfl 3 (.slice none 0 0));have r0 := ckC S5.out 1 rfl 0 rfl;have r1 := ckC S5.out 1 rfl 1 rfl;have r2 := ckC S5.out 1 rfl 2 rfl;have r3 := ckC S5.out 1 rfl 3 rfl;have f0 := BlkAt.free (S5.out.get 1 rfl) 0;have f1 := BlkAt.free (S5.out.get 1 rfl) 1;have f2 := BlkAt.free (S5.out.get 1 rfl) 2;have f3 := BlkAt.free (S5.out.get 1 rfl) 3;have t0 := ckC SZ.out 1 rfl 0 rfl;have t1 := ckC SZ.out 1 rfl 1 rfl;have t2 := ckC SZ.out 1 rfl 2 rfl;have t3 := ckC SZ.out 1 rfl 3 rfl;go_wp2_with fail
   refine bodyPost_ret (v := .agg #[.slice AE al.length cE,.int .i64 0,.slice none 0 0,.slice none 0 0]) (by simp [results,Tryd.results26,go_sem, *]) rfl ?_;exact ⟨⟨al,0,[],[]⟩,⟨AE,cE,none,0,none,0⟩,rfl,(((SZ.out.nilOwn encI 1 3).nilOwn Ed.cells 3 87).pick [2,1,0] (by decide)),⟨by simp only; omega,by simp,by simp⟩,EMP.out,rfl⟩
 · have hq : ((N : Int) == 0) = false := by simpa using hz
   go_wp2_with fail
   refine (classes9_c ⟨al,↑N,mr,ed⟩ ⟨A1,c1,A2,c2,A3,c3⟩ W HR.out (HA.out.below S0.out.below)).mono ?_;rintro e W1 ⟨gc,rfl,T⟩;simp only [Int.toNat_natCast] at T ⊢;have HG : Hid (∀ s : Nat,s < N → (gdN ⟨al,↑N,mr,ed⟩ N s = true ↔ Good ⟨al,↑N,mr,ed⟩ s)) := fun s hs => by
    have h := gdN_fin HR.out s (by simpa using hs);simpa using h
   obtain ⟨gd,hgd⟩ : ∃ gd,gdN ⟨al,↑N,mr,ed⟩ N = gd := ⟨_,rfl⟩;rw [hgd] at T HG;have HG2 : ∀ s : Nat,s < (⟨al,↑N,mr,ed⟩ : Au).n.toNat → (gd s = true ↔ Good ⟨al,↑N,mr,ed⟩ s) := fun s hs => HG.out s (by simpa using hs);have HF := clsN_fin HR.out HG2 (by show (0 : Int) < (N : Int); omega);have HP := Lib.hid (clsN_pre HR.out HG2 N);have hcl : (clsN ⟨al,↑N,mr,ed⟩ gd N).length = N := by rw [clsN_len]; simp
   simp only [Int.toNat_natCast] at HF;obtain ⟨cc,hcc⟩ : ∃ cc,clsN ⟨al,↑N,mr,ed⟩ gd N = cc := ⟨_,rfl⟩;rw [hcc] at T HF HP hcl;have HST := Lib.hid HF.1;obtain ⟨mm,hmx⟩ := HF.2;have HMX := Lib.hid hmx;have HG3 := Lib.hid HG2;have HCL := Lib.hid hcl;have S1 := ckN S0.out T.out;clear T S0 hgd hcc HF hmx HG2 HG hcl a0 a1 a2 a3;have hcat : ∀ s : Nat,s < N → cc[s]? = some (cc.getD s 0) := fun s hs => by rw [List.getD_eq_getElem?_getD,List.getElem?_eq_getElem (by rw [HCL.out]; exact hs)]; rfl
   have HCAT := Lib.hid hcat;have hc00 := hcat 0 (by omega);obtain ⟨z0,hz0⟩ : ∃ z,cc.getD 0 0 = z := ⟨_,rfl⟩;rw [hz0] at hc00;have HZ0 := Lib.hid hz0;have k0 : W1.cell? ⟨gc,0,none⟩ = some (.int .i64 z0) := (BlkAt.cell (S1.out.get 0 rfl) 0).trans (iv_get hc00);have a0 := ckC S1.out 2 rfl 0 rfl;have a1 := ckC S1.out 2 rfl 1 rfl;have hNp : 0 < N := by omega
   clear hcat hc00 hz0;by_cases hc0 : z0 = 0
   · have EMP : Hid (IsMin ⟨al,0,[],[]⟩ L) := HEM.out fun u h => by
      have hg : Good ⟨al,↑N,mr,ed⟩ ((0 : Nat) : Int) := ⟨u,by
       have e : (⟨al,↑N,mr,ed⟩ : Au).st = ((0 : Nat) : Int) := by unfold Au.st; rw [if_neg (by simp only; omega)]; rfl
       rw [← e]; exact h⟩
      have h1 := (HG3.out 0 (by simpa using hNp)).2 hg;have h2 := (HP.out.z 0 (by simpa using hNp)).1 (HZ0.out.trans hc0);rw [h1] at h2;cases h2
     have hq2 : (z0 == 0) = true := by rw [hc0]; rfl
     clear hc0;go_wp2_with fail
     refine (Empty_c A1 c1 al W1 (HA.out.below S1.out.below).al (by omega) HAN.out).mono ?_;rintro e w5 ⟨AE,cE,rfl,HO,hb⟩;have S5 : (SepW w [eInts al (.slice AE al.length cE),eBlk gc 3 (iv cc),eBlk (w.heap.size + 1) 35 [.slice none 0 0,.int .i64 0,.slice none 0 0,.slice none 0 0],eBlk w.heap.size 35 [.slice A1 al.length c1,.int .i64 ↑N,.slice A2 mr.length c2,.slice A3 ed.length c3]] w5) := S1.out.newI HO.out hb;clear hb HO S1;have SZ : (SepW w [eInts al (.slice AE al.length cE),eBlk gc 3 (iv cc),eBlk (w.heap.size + 1) 35 [.slice AE al.length cE,.int .i64 0,.slice none 0 0,.slice none 0 0],eBlk w.heap.size 35 [.slice A1 al.length c1,.int .i64 ↑N,.slice A2 mr.length c2,.slice A3 ed.length c3]] _) := ((((S5.out.set 2 rfl 0 (.slice AE al.length cE)).set 2 rfl 1 (.int .i64 0)).set 2 rfl 2 (.slice none 0 0)).set 2 rfl 3 (.slice none 0 0));have r0 := ckC S5.out 2 rfl 0 rfl;have r1 := ckC S5.out 2 rfl 1 rfl;have r2 := ckC S5.out 2 rfl 2 rfl;have r3 := ckC S5.out 2 rfl 3 rfl;have f0 := BlkAt.free (S5.out.get 2 rfl) 0;have f1 := BlkAt.free (S5.out.get 2 rfl) 1;have f2 := BlkAt.free (S5.out.get 2 rfl) 2;have f3 := BlkAt.free (S5.out.get 2 rfl) 3;have t0 := ckC SZ.out 2 rfl 0 rfl;have t1 := ckC SZ.out 2 rfl 1 rfl;have t2 := ckC SZ.out 2 rfl 2 rfl;have t3 := ckC SZ.out 2 rfl 3 rfl;go_wp2_with fail
     refine bodyPost_ret (v := .agg #[.slice AE al.length cE,.int .i64 0,.slice none 0 0,.slice none 0 0]) (by simp [results,Tryd.results26,go_sem, *]) rfl ?_;exact ⟨⟨al,0,[],[]⟩,⟨AE,cE,none,0,none,0⟩,rfl,(((SZ.out.nilOwn encI 1 3).nilOwn Ed.cells 3 87).pick [2,1,0] (by decide)),⟨by simp only; omega,by simp,by simp⟩,EMP.out,rfl⟩
   · have hq2 : (z0 == 0) = false := by simpa using hc0
     have HC0 : Hid (cc.getD 0 0 ≠ 0) := by rw [HZ0.out]; exact hc0
     obtain ⟨nb,hnb⟩ : ∃ g,g = W1.heap.size := ⟨_,rfl⟩;go_upto_region 7 with fail
     rw [← hnb];refine wp_world (fun V => Sep w.heap.size w [eBlk gc 3 (iv cc),eBlk nb 35 [.slice A1 al.length c1,.int .i64 0,.slice none 0 0,.slice none 0 0],eInts [] (.slice none 0 0),eEds [] (.slice none 0 0),eBlk (w.heap.size + 1) 35 [.slice none 0 0,.int .i64 0,.slice none 0 0,.slice none 0 0],eBlk w.heap.size 35 [.slice A1 al.length c1,.int .i64 ↑N,.slice A2 mr.length c2,.slice A3 ed.length c3]] V) ?_ fun V S' => ?_
     · exact (((S1.out.alloc' 35 [.slice A1 al.length c1,.int .i64 0,.slice none 0 0,.slice none 0 0] rfl hnb).nilOwn encI 1 3).nilOwn Ed.cells 3 87).pick [3,2,1,0,4,5] (by decide)
     have S2 := Lib.hid S';clear S' S1 hnb hc0 hq2 k0 a0 a1;go_wp2_with fail
     go_loopw [5,6,7,8] (fun v5 _ _ _ wr => ∃ (i : Nat) (rp : List Nat) (v2 v3 : Value),v5 = .int .i64 ↑i ∧ i ≤ N ∧ Hid (Reps ⟨al,↑N,mr,ed⟩ cc i rp) ∧ (SepW w [eBlk gc 3 (iv cc),eBlk nb 35 [.slice A1 al.length c1,.int .i64 ((rp.length : Nat) : Int),v2,v3],eInts (mkQ ⟨al,↑N,mr,ed⟩ rp) v2,eEds (rowsG al (nxQ ⟨al,↑N,mr,ed⟩ cc rp) rp.length) v3,eBlk (w.heap.size + 1) 35 [.slice none 0 0,.int .i64 0,.slice none 0 0,.slice none 0 0],eBlk w.heap.size 35 [.slice A1 al.length c1,.int .i64 ↑N,.slice A2 mr.length c2,.slice A3 ed.length c3]] wr)) (fun v5 _ _ _ _ => N - (intOf v5).toNat)
     case atStart => exact ⟨0,[],.slice none 0 0,.slice none 0 0,rfl,Nat.zero_le _,Reps.start,S2.out⟩
     case round =>
      clear S2;obtain ⟨i,rp,v2,v3,rfl,hi,RP,S⟩ := hrel;have a1 := ckC S.out 5 rfl 1 rfl;by_cases hlt : i < N
      · have hci := HCAT.out i hlt;obtain ⟨zi,hzi⟩ : ∃ z,cc.getD i 0 = z := ⟨_,rfl⟩;rw [hzi] at hci;have HZI := Lib.hid hzi;have k0 : wr.cell? ⟨gc,i,none⟩ = some (.int .i64 zi) := (BlkAt.cell (S.out.get 0 rfl) i).trans (iv_get hci);clear hci hzi;have o1 := ckC S.out 1 rfl 1 rfl;have hrl := RP.out.len;by_cases hle : zi ≤ ((rp.length : Nat) : Int)
        · have RP2 := Lib.hid (RP.out.skip (by rw [HZI.out]; exact hle));have hq3 : decide (zi ≤ ((rp.length : Nat) : Int)) = true := by simpa using hle
          clear RP hle;go_wp2_with fail
          go_quiet (fail)
          go_wp2_with fail
          go_roundw
          case rel => exact ⟨i + 1,rp,v2,v3,by go_num,by omega,RP2.out,S.out.draws _⟩
          case measure => simp [intOf]; omega
        · have RP2 := Lib.hid (RP.out.push HMX.out (by simpa using hlt) (by rw [HZI.out]; exact hle)).2;have hq3 : decide (zi ≤ ((rp.length : Nat) : Int)) = false := by simpa using hle
          have hw : IntKind.i64.wrap (((rp.length : Nat) : Int) + 1) = ((rp.length : Nat) : Int) + 1 := IntWalk.i64_in _ (by omega);clear RP hle;go_wp2_with fail
          go_quiet (fail)
          go_upto_region 12 with fail
          refine wp_world (fun V => Sep w.heap.size w [eBlk gc 3 (iv cc),eBlk nb 35 [.slice A1 al.length c1,.int .i64 ((rp.length : Nat) : Int),v2,v3],eInts (mkQ ⟨al,↑N,mr,ed⟩ rp) v2,eEds (rowsG al (nxQ ⟨al,↑N,mr,ed⟩ cc rp) rp.length) v3,eBlk (w.heap.size + 1) 35 [.slice none 0 0,.int .i64 0,.slice none 0 0,.slice none 0 0],eBlk w.heap.size 35 [.slice A1 al.length c1,.int .i64 ↑N,.slice A2 mr.length c2,.slice A3 ed.length c3]] V) (S.out.draws _) fun V S' => ?_;have SV := Lib.hid S';clear S' S k0 o1 a1;have o1 := ckC SV.out 1 rfl 1 rfl;have f1 := BlkAt.free (SV.out.get 1 rfl) 1;go_upto_region 13 with fail
          refine wp_world (fun V => Sep w.heap.size w [eBlk gc 3 (iv cc),eBlk nb 35 [.slice A1 al.length c1,.int .i64 (((rp.length : Nat) : Int) + 1),v2,v3],eInts (mkQ ⟨al,↑N,mr,ed⟩ rp) v2,eEds (rowsG al (nxQ ⟨al,↑N,mr,ed⟩ cc rp) rp.length) v3,eBlk (w.heap.size + 1) 35 [.slice none 0 0,.int .i64 0,.slice none 0 0,.slice none 0 0],eBlk w.heap.size 35 [.slice A1 al.length c1,.int .i64 ↑N,.slice A2 mr.length c2,.slice A3 ed.length c3]] V) (SV.out.set 1 rfl 1 (.int .i64 (((rp.length : Nat) : Int) + 1))) fun V2 S' => ?_;have S2 := Lib.hid S';clear S' SV o1 f1;have a0 := ckC S2.out 5 rfl 0 rfl;have a1 := ckC S2.out 5 rfl 1 rfl;have a2 := ckC S2.out 5 rfl 2 rfl;have a3 := ckC S2.out 5 rfl 3 rfl;go_wp2_with fail
          refine (marked9_c ⟨al,↑N,mr,ed⟩ ⟨A1,c1,A2,c2,A3,c3⟩ (i : Int) V2 (HA.out.below S2.out.below).mr HA.out.lmk).mono ?_;rintro e w3 ⟨b,rfl,hb',hb⟩;have HB := Lib.hid hb';have S3 := Lib.hid (S2.out.next hb);clear hb hb' S2 a0 a1 a2 a3;have hmq : (mkQ ⟨al,↑N,mr,ed⟩ rp).length ≤ 1048576 := by have := mkQ_len ⟨al,↑N,mr,ed⟩ rp; omega
          go_upto_if 48 with fail
          go_cut [48] (fun v wx => ∃ (v2' : Value),(SepW w [eBlk gc 3 (iv cc),eBlk nb 35 [.slice A1 al.length c1,.int .i64 (((rp.length : Nat) : Int) + 1),v2',v3],eInts (mkQ ⟨al,↑N,mr,ed⟩ (rp ++ [i])) v2',eEds (rowsG al (nxQ ⟨al,↑N,mr,ed⟩ cc rp) rp.length) v3,eBlk (w.heap.size + 1) 35 [.slice none 0 0,.int .i64 0,.slice none 0 0,.slice none 0 0],eBlk w.heap.size 35 [.slice A1 al.length c1,.int .i64 ↑N,.slice A2 mr.length c2,.slice A3 ed.length c3]] wx))
          case first =>
           cases b;case true =>
            have HM : Hid ((i : Int) ∈ mr) := HB.out.1 rfl;have hMS : Hid (mkQ ⟨al,↑N,mr,ed⟩ (rp ++ [i]) = mkQ ⟨al,↑N,mr,ed⟩ rp ++ [((rp.length : Nat) : Int)]) := by rw [Hid,mkQ_snoc,if_pos HM.out]
            have q2 := ckC S3.out 1 rfl 2 rfl;go_wp2_with (at_builtin; refine wpList_pushS rfl _ _ 32 rfl (S3.out.alloc 3 [.int .i64 ((rp.length : Nat) : Int)]) 3 rfl Tryd.underlying32 _ 8 intInfo rfl (by decide) rfl ((rp.length : Nat) : Int) _ rfl rfl (one_cell _ _ [_] _ rfl) (encI_one _) hmq (by decide) ?_)
            intro A5 c5 w6 S9 _;have S10 : (SepW w (([eBlk gc 3 (iv cc),eBlk nb 35 [.slice A1 al.length c1,.int .i64 (((rp.length : Nat) : Int) + 1),v2,v3],eInts (mkQ ⟨al,↑N,mr,ed⟩ rp) v2,eEds (rowsG al (nxQ ⟨al,↑N,mr,ed⟩ cc rp) rp.length) v3,eBlk (w.heap.size + 1) 35 [.slice none 0 0,.int .i64 0,.slice none 0 0,.slice none 0 0],eBlk w.heap.size 35 [.slice A1 al.length c1,.int .i64 ↑N,.slice A2 mr.length c2,.slice A3 ed.length c3]]).set 2 (eInts (mkQ ⟨al,↑N,mr,ed⟩ (rp ++ [i])) (.slice A5 ((mkQ ⟨al,↑N,mr,ed⟩ rp).length + 1) c5))) w6) := by
             rw [hMS.out];exact S9.drop1
            have u2 := ckC S10.out 1 rfl 2 rfl;have f2 := BlkAt.free (S10.out.get 1 rfl) 2;have S11 := Lib.hid (S10.out.set 1 rfl 2 (.slice A5 ((mkQ ⟨al,↑N,mr,ed⟩ rp).length + 1) c5));clear S3 S9 S10 q2 HB;go_wp2_with fail
            go_meet
            exact ⟨_,S11.out⟩
           case false =>
            have HM : Hid (¬ (i : Int) ∈ mr) := fun h => by have := HB.out.2 h; cases this
            have S11 : (SepW w (([eBlk gc 3 (iv cc),eBlk nb 35 [.slice A1 al.length c1,.int .i64 (((rp.length : Nat) : Int) + 1),v2,v3],eInts (mkQ ⟨al,↑N,mr,ed⟩ rp) v2,eEds (rowsG al (nxQ ⟨al,↑N,mr,ed⟩ cc rp) rp.length) v3,eBlk (w.heap.size + 1) 35 [.slice none 0 0,.int .i64 0,.slice none 0 0,.slice none 0 0],eBlk w.heap.size 35 [.slice A1 al.length c1,.int .i64 ↑N,.slice A2 mr.length c2,.slice A3 ed.length c3]]).set 2 (eInts (mkQ ⟨al,↑N,mr,ed⟩ (rp ++ [i])) v2)) w3) := by
             rw [mkQ_snoc,if_neg HM.out];exact S3.out
            clear S3 HB;go_wp2_with fail
            go_meet
            exact ⟨v2,S11.out⟩
          case rest =>
           clear S3 HB hmq;obtain ⟨v2,S⟩ := hcut;have S0 : (SepW w [eBlk gc 3 (iv cc),eBlk nb 35 [.slice A1 al.length c1,.int .i64 (((rp.length : Nat) : Int) + 1),v2,v3],eInts (mkQ ⟨al,↑N,mr,ed⟩ (rp ++ [i])) v2,eEds (rowsG al (nxQ ⟨al,↑N,mr,ed⟩ cc rp) rp.length ++ rowG (al.take 0) rp.length (fun e => clQ cc (nextV ed (i : Int) e))) v3,eBlk (w.heap.size + 1) 35 [.slice none 0 0,.int .i64 0,.slice none 0 0,.slice none 0 0],eBlk w.heap.size 35 [.slice A1 al.length c1,.int .i64 ↑N,.slice A2 mr.length c2,.slice A3 ed.length c3]] wc) := by
            have e : rowG (al.take 0) rp.length (fun e => clQ cc (nextV ed (i : Int) e)) = [] := rfl;rw [e,List.append_nil];exact S.out
           clear S;go_wp2_with fail
           go_loopw [7,8] (fun v7 _ wr => ∃ (t : Nat) (v3' : Value),v7 = .int .i64 ↑t ∧ t ≤ al.length ∧ (SepW w [eBlk gc 3 (iv cc),eBlk nb 35 [.slice A1 al.length c1,.int .i64 (((rp.length : Nat) : Int) + 1),v2,v3'],eInts (mkQ ⟨al,↑N,mr,ed⟩ (rp ++ [i])) v2,eEds (rowsG al (nxQ ⟨al,↑N,mr,ed⟩ cc rp) rp.length ++ rowG (al.take t) rp.length (fun e => clQ cc (nextV ed (i : Int) e))) v3',eBlk (w.heap.size + 1) 35 [.slice none 0 0,.int .i64 0,.slice none 0 0,.slice none 0 0],eBlk w.heap.size 35 [.slice A1 al.length c1,.int .i64 ↑N,.slice A2 mr.length c2,.slice A3 ed.length c3]] wr)) (fun v7 _ _ => al.length - (intOf v7).toNat)
           case atStart => exact ⟨0,v3,rfl,Nat.zero_le _,S0.out⟩
           case round =>
            clear S0;obtain ⟨t,v3,rfl,ht,S⟩ := hrel;have a0 := ckC S.out 5 rfl 0 rfl;by_cases htl : t < al.length
            · obtain ⟨bL,oL,ev,rfl,hbe,hev,ce⟩ := IntsAt.at HA.out.al htl;have HT : Hid (al.take (t + 1) = al.take t ++ [ev]) := by rw [Hid,List.take_add_one,hev]; rfl
              obtain ⟨tx,htx⟩ : ∃ t,toV (stepOf ed) (i : Int) ev = t := ⟨_,rfl⟩;have HTX := Lib.hid htx;have hnx : nextV ed (i : Int) ev = tx := (HR.out.next (i : Int) ev).trans htx;have cx : tx = -1 ∨ 0 ≤ tx ∧ tx < (N : Int) := by have h := Pre.key.next_rg HR.out (i : Int) ev; simp only at h; rw [hnx] at h; exact h
              have HNX := Lib.hid hnx;clear htx hnx hev;go_upto_region 18 with fail
              go_cut [8] (fun x wx => x = .int .i64 tx ∧ (SepW w [eBlk gc 3 (iv cc),eBlk nb 35 [.slice (some ⟨bL,oL,none⟩) al.length c1,.int .i64 (((rp.length : Nat) : Int) + 1),v2,v3],eInts (mkQ ⟨al,↑N,mr,ed⟩ (rp ++ [i])) v2,eEds (rowsG al (nxQ ⟨al,↑N,mr,ed⟩ cc rp) rp.length ++ rowG (al.take t) rp.length (fun e => clQ cc (nextV ed (i : Int) e))) v3,eBlk (w.heap.size + 1) 35 [.slice none 0 0,.int .i64 0,.slice none 0 0,.slice none 0 0],eBlk w.heap.size 35 [.slice (some ⟨bL,oL,none⟩) al.length c1,.int .i64 ↑N,.slice A2 mr.length c2,.slice A3 ed.length c3]] wx))
              case first =>
               have S1 := Lib.hid S.out.drew;refine wp_region_held_drew (S := (fun V => Sep w.heap.size w [eBlk w.heap.size 35 [.slice (some ⟨bL,oL,none⟩) al.length c1,.int .i64 ↑N,.slice A2 mr.length c2,.slice A3 ed.length c3]] V)) (by kernel_rfl) ?_ (fun hH => ?_)
               · exact S1.out.pick [5] (by decide)
               generalize hwz : wr.drew = w1 at *;clear hwz;refine tkH 0 rfl (v := ?_) (by kernel_rfl) ?_ hH ?_;rotate_left
               · intro V hs_;have a0 := ckC hs_ 0 rfl 0 rfl;have a1 := ckC hs_ 0 rfl 1 rfl;have a2 := ckC hs_ 0 rfl 2 rfl;have a3 := ckC hs_ 0 rfl 3 rfl;clear hs_;first | (go_simp; done) | (go_simp; with_reducible rfl)
               (try simp only [sx]);refine tkP 1 rfl (v := ?_) hH ?_;(try simp only [sx]);refine tkP 2 rfl (v := ?_) hH ?_;(try simp only [sx]);refine tkH 3 rfl (v := ?_) (by kernel_rfl) ?_ hH ?_;rotate_left
               · intro V hs_;have a0 := ckC hs_ 0 rfl 0 rfl;clear hs_;first | (go_simp; done) | (go_simp; with_reducible rfl)
               (try simp only [sx]);refine tkP 4 rfl (v := ?_) hH ?_;(try simp only [sx]);refine tkP 5 rfl (v := ?_) hH ?_;(try simp only [sx]);refine tkH 6 rfl (v := ?_) (by kernel_rfl) ?_ hH ?_;rotate_left
               · intro V hs_;have bo := old_cell (show Sep w.heap.size w _ V from hs_).below ce hbe;clear hs_;first | (go_simp; done) | (go_simp; with_reducible rfl)
               (try simp only [sx]);refine rdH 7 rfl fun K hK => ?_;go_simp;refine (step9_e ⟨al,↑N,mr,ed⟩ ⟨some ⟨bL,oL,none⟩,c1,A2,c2,A3,c3⟩ (i : Int) ev tx w1 HR.out (HA.out.below S1.out.below).ed HA.out.led HTX.out).mono ?_;rintro e w2 ⟨rfl,hb⟩;have S2 := Lib.hid (S1.out.next hb);clear hb;refine hK.out _ _ (S2.out.pick [5] (by decide)) fun hH => ?_;clear hK K;(try simp only [sx]);refine tkP 8 rfl (v := ?_) hH ?_;(try simp only [sx]);refine wpAnyH_done (by kernel_rfl) ?_ _;go_wp2_with fail
               go_meet
               exact ⟨rfl,S2.out⟩
              case rest =>
               clear S a0;obtain ⟨rfl,S⟩ := hcut;have skip : clQ cc tx = -1 → Hid (rowG (al.take (t + 1)) rp.length (fun e => clQ cc (nextV ed (i : Int) e)) = rowG (al.take t) rp.length (fun e => clQ cc (nextV ed (i : Int) e))) := fun h => by
                rw [Hid,HT.out];exact rowG_no _ _ _ _ (by rw [HNX.out,h]; decide)
               rcases cx with rfl | hx
               · have HROW := skip rfl;clear skip;go_wp2_with fail
                 go_roundw
                 case rel => exact ⟨t + 1,v3,by go_num,by omega,by rw [HROW.out]; exact S.out⟩
                 case measure => simp [intOf]; omega
               · obtain ⟨m,rfl⟩ := Int.eq_ofNat_of_zero_le hx.1;have hmN : m < N := by omega
                 have hcm := HCAT.out m hmN;have hrg := HMX.out.rg m (by simpa using hmN);have hmm : mm ≤ N := by simpa using HMX.out.le
                 obtain ⟨px,hpx⟩ : ∃ z,cc.getD m 0 = z := ⟨_,rfl⟩;rw [hpx] at hcm hrg;have hcl : clQ cc (m : Int) = px - 1 := by unfold clQ clsI; rw [if_pos hx.1,Int.toNat_natCast,hpx]
                 rw [hcl] at skip;have HCM := Lib.hid hcm;have HCQ := Lib.hid hcl;have k1 : wc.cell? ⟨gc,m,none⟩ = some (.int .i64 px) := (BlkAt.cell (S.out.get 0 rfl) m).trans (iv_get hcm);clear hpx hcl hcm;by_cases hp0 : px > 0
                 · have hq5 : decide (px > 0) = true := by simpa using hp0
                   have HROW0 : Hid (rowG (al.take (t + 1)) rp.length (fun e => clQ cc (nextV ed (i : Int) e)) = rowG (al.take t) rp.length (fun e => clQ cc (nextV ed (i : Int) e)) ++ [⟨((rp.length : Nat) : Int),ev,px - 1⟩]) := by
                    rw [Hid,HT.out];have h := rowG_yes (al.take t) rp.length (fun e => clQ cc (nextV ed (i : Int) e)) ev (by rw [HNX.out,HCQ.out]; omega);rw [h,HNX.out,HCQ.out]
                   obtain ⟨EL,hEL⟩ : ∃ EL,rowsG al (nxQ ⟨al,↑N,mr,ed⟩ cc rp) rp.length ++ rowG (al.take t) rp.length (fun e => clQ cc (nextV ed (i : Int) e)) = EL := ⟨_,rfl⟩;have hel2 : EL.length ≤ 1048576 := by
                    rw [← hEL,List.length_append];have h1 := rowsG_len al (nxQ ⟨al,↑N,mr,ed⟩ cc rp) rp.length;have h2 := rowG_len (al.take t) rp.length (fun e => clQ cc (nextV ed (i : Int) e));have h3 : rp.length * al.length ≤ 4096 * 32 := Nat.mul_le_mul (by omega) hal;have h4 : (al.take t).length ≤ 32 := by rw [List.length_take]; omega
                    omega
                   rw [hEL] at S;have HROW : Hid (rowsG al (nxQ ⟨al,↑N,mr,ed⟩ cc rp) rp.length ++ rowG (al.take (t + 1)) rp.length (fun e => clQ cc (nextV ed (i : Int) e)) = EL ++ [⟨((rp.length : Nat) : Int),ev,px - 1⟩]) := by rw [Hid,HROW0.out,← List.append_assoc,hEL]
                   obtain ⟨AV3,cV3,rfl⟩ := S.out.form 3 rfl;have hw : IntKind.i64.wrap (px - 1) = px - 1 := IntWalk.i64_in _ (by omega);have hcm := HCM.out;clear skip HROW0 hEL;go_wp2_with fail
                   have S3 := Lib.hid S.out.drew;refine wp_region_held_drew (S := (fun V => Sep w.heap.size w [eBlk gc 3 (iv cc),eBlk w.heap.size 35 [.slice (some ⟨bL,oL,none⟩) al.length c1,.int .i64 ↑N,.slice A2 mr.length c2,.slice A3 ed.length c3]] V)) (by kernel_rfl) ?_ (fun hH => ?_)
                   · exact S3.out.pick [0,5] (by decide)
                   generalize hwz : wc.drew = w3 at *;clear hwz;refine tkP 0 rfl (v := ?_) hH ?_;(try simp only [sx]);refine tkP 2 rfl (v := ?_) hH ?_;(try simp only [sx]);refine tkP 3 rfl (v := ?_) hH ?_;(try simp only [sx]);refine tkH 4 rfl (v := ?_) (by kernel_rfl) ?_ hH ?_;rotate_left
                   · intro V hs_;have a0 := ckC hs_ 1 rfl 0 rfl;clear hs_;first | (go_simp; done) | (go_simp; with_reducible rfl)
                   (try simp only [sx]);refine tkP 5 rfl (v := ?_) hH ?_;(try simp only [sx]);refine tkP 6 rfl (v := ?_) hH ?_;(try simp only [sx]);refine tkH 7 rfl (v := ?_) (by kernel_rfl) ?_ hH ?_;rotate_left
                   · intro V hs_;have bo := old_cell (show Sep w.heap.size w _ V from hs_).below ce hbe;clear hs_;first | (go_simp; done) | (go_simp; with_reducible rfl)
                   (try simp only [sx]);refine tkP 8 rfl (v := ?_) hH ?_;(try simp only [sx]);refine tkP 9 rfl (v := ?_) hH ?_;(try simp only [sx]);refine tkP 10 rfl (v := ?_) hH ?_;(try simp only [sx]);refine tkH 11 rfl (v := ?_) (by kernel_rfl) ?_ hH ?_;rotate_left
                   · intro V hs_;have bc := (BlkAt.cell (Sep.get (show Sep w.heap.size w _ V from hs_) 0 rfl) m).trans (iv_get hcm);clear hs_;first | (go_simp; done) | (go_simp; with_reducible rfl)
                   (try simp only [sx]);refine tkP 12 rfl (v := ?_) hH ?_;(try simp only [sx]);refine tkP 13 rfl (v := ?_) hH ?_;(try simp only [sx]);refine wpAnyH_ready (rs := [1,14]) (by kernel_rfl) (by simp) ?_;refine AllReadyH.cons rfl (fun K hK => ?_) (AllReadyH.cons rfl (fun K hK => ?_) AllReadyH.nil)
                   · skip;have b3 := BlkAt.cell (Sep.get S3.out 1 rfl) 3;simp only [List.getElem?_cons_succ,List.getElem?_cons_zero] at b3;go_simp;refine hK.out _ _ (S3.out.pick [0,5] (by decide)) fun hH => ?_;clear hK K;(try simp only [sx]);refine rdH 14 rfl fun K hK => ?_;go_simp;obtain ⟨nnw,hnnw⟩ : ∃ n,n = w3.heap.size := ⟨_,rfl⟩;obtain ⟨w4,hw4⟩ : ∃ v,v = w3.alloc (.cells #[.int .i64 ((rp.length : Nat) : Int),.int .i64 ev,.int .i64 (px - 1)] 87) := ⟨_,rfl⟩;rw [← hw4,← hnnw];have S4 := ckA S3.out hw4 hnnw;skip;clear hw4 hnnw;refine hK.out _ _ (S4.out.pick [1,6] (by decide)) fun hH => ?_;clear hK K;(try simp only [sx]);refine rdH 15 rfl fun K hK => ?_;refine step_pushS rfl (.tmp 80) (.tmp 93) 33 rfl S4.out 4 rfl Tryd.underlying33 _ 24 edInfo rfl (by decide) rfl ⟨((rp.length : Nat) : Int),ev,px - 1⟩ nnw rfl rfl (fun j u hj => (BlkAt.cell (S4.out.get 0 rfl) j).trans hj) (edOne _) hel2 (by decide) ?_;intro Aee5 cee5 w5 S5' _;have S5 := ckR S5';clear S5';refine hK.out _ _ (S5.out.pick [1,6] (by decide)) fun hH => ?_;clear hK K;(try simp only [sx]);refine tkP 16 rfl (v := ?_) hH ?_;(try simp only [sx]);refine rdH 17 rfl fun K hK => ?_;have sc := ckC S5.out 2 rfl 3 rfl;have sf := BlkAt.free (S5.out.get 2 rfl) 3;go_simp;obtain ⟨w6,hw6⟩ : ∃ v,v = w5.setCell ⟨nb,3,none⟩ (.slice Aee5 (EL.length + 1) cee5) := ⟨_,rfl⟩;rw [← hw6];have S6 := ckS S5.out hw6 2 rfl;clear hw6 sc sf;refine hK.out _ _ (S6.out.pick [1,6] (by decide)) fun hH => ?_;clear hK K
                     (try simp only [sx]);refine wpAnyH_done (by kernel_rfl) ?_ _;go_wp2_with fail
                     go_roundw
                     case rel => exact ⟨t + 1,_,by go_num,by omega,by have h := S6.out.pick [1,2,3,4,5,6] (by decide); rw [HROW.out]; exact h⟩
                     case measure => simp [intOf]; omega
                   · skip;go_simp;obtain ⟨nnw,hnnw⟩ : ∃ n,n = w3.heap.size := ⟨_,rfl⟩;obtain ⟨w7,hw7⟩ : ∃ v,v = w3.alloc (.cells #[.int .i64 ((rp.length : Nat) : Int),.int .i64 ev,.int .i64 (px - 1)] 87) := ⟨_,rfl⟩;rw [← hw7,← hnnw];have S7 := ckA S3.out hw7 hnnw;skip;clear hw7 hnnw;refine hK.out _ _ (S7.out.pick [1,6] (by decide)) fun hH => ?_;clear hK K;(try simp only [sx]);refine rdH 1 rfl fun K hK => ?_;have b3 := BlkAt.cell (Sep.get S7.out 2 rfl) 3;simp only [List.getElem?_cons_succ,List.getElem?_cons_zero] at b3;go_simp;refine hK.out _ _ (S7.out.pick [1,6] (by decide)) fun hH => ?_;clear hK K;(try simp only [sx]);refine rdH 15 rfl fun K hK => ?_;refine step_pushS rfl (.tmp 80) (.tmp 93) 33 rfl S7.out 4 rfl Tryd.underlying33 _ 24 edInfo rfl (by decide) rfl ⟨((rp.length : Nat) : Int),ev,px - 1⟩ nnw rfl rfl (fun j u hj => (BlkAt.cell (S7.out.get 0 rfl) j).trans hj) (edOne _) hel2 (by decide) ?_;intro Aee8 cee8 w8 S8' _;have S8 := ckR S8';clear S8';refine hK.out _ _ (S8.out.pick [1,6] (by decide)) fun hH => ?_;clear hK K;(try simp only [sx]);refine tkP 16 rfl (v := ?_) hH ?_;(try simp only [sx]);refine rdH 17 rfl fun K hK => ?_;have sc := ckC S8.out 2 rfl 3 rfl;have sf := BlkAt.free (S8.out.get 2 rfl) 3;go_simp;obtain ⟨w9,hw9⟩ : ∃ v,v = w8.setCell ⟨nb,3,none⟩ (.slice Aee8 (EL.length + 1) cee8) := ⟨_,rfl⟩;rw [← hw9];have S9 := ckS S8.out hw9 2 rfl;clear hw9 sc sf;refine hK.out _ _ (S9.out.pick [1,6] (by decide)) fun hH => ?_;clear hK K;try simp only [sx]
                     refine wpAnyH_done (by kernel_rfl) ?_ _;go_wp2_with fail
                     go_roundw
                     case rel => exact ⟨t + 1,_,by go_num,by omega,by have h := S9.out.pick [1,2,3,4,5,6] (by decide); rw [HROW.out]; exact h⟩
                     case measure => simp [intOf]; omega
                 · have hq5 : decide (px > 0) = false := by simpa using hp0
                   have HROW := skip (by omega);clear skip;go_wp2_with fail
                   go_roundw
                   case rel => exact ⟨t + 1,v3,by go_num,by omega,by rw [HROW.out]; exact S.out⟩
                   case measure => simp [intOf]; omega
            · obtain rfl : t = al.length := by omega
              have S3 : (SepW w [eBlk gc 3 (iv cc),eBlk nb 35 [.slice A1 al.length c1,.int .i64 (((rp ++ [i]).length : Nat) : Int),v2,v3],eInts (mkQ ⟨al,↑N,mr,ed⟩ (rp ++ [i])) v2,eEds (rowsG al (nxQ ⟨al,↑N,mr,ed⟩ cc (rp ++ [i])) (rp ++ [i]).length) v3,eBlk (w.heap.size + 1) 35 [.slice none 0 0,.int .i64 0,.slice none 0 0,.slice none 0 0],eBlk w.heap.size 35 [.slice A1 al.length c1,.int .i64 ↑N,.slice A2 mr.length c2,.slice A3 ed.length c3]] wr) := by
               have h := S.out;rw [List.take_length] at h;have e := rowsQ_snoc ⟨al,↑N,mr,ed⟩ cc rp i;simp only at e
               rw [e];have e2 : (((rp ++ [i]).length : Nat) : Int) = ((rp.length : Nat) : Int) + 1 := by simp
               rw [e2];exact h
              clear S;go_wp2_with fail
              go_roundw
              case rel => exact ⟨i + 1,rp ++ [i],v2,v3,by go_num,by omega,RP2.out,S3.out⟩
              case measure => simp [intOf]; omega
      · obtain rfl : N = i := by omega
        obtain ⟨AM,cM,rfl⟩ := S.out.form 2 rfl;obtain ⟨AE,cE,rfl⟩ := S.out.form 3 rfl;have QO : Hid (QOk ⟨al,↑N,mr,ed⟩ gd cc mm rp) := ⟨HR.out,HG3.out,HP.out,HST.out,HMX.out,by simpa using RP.out⟩;have QR := Lib.hid QO.out.right;have hml2 : (mkQ ⟨al,↑N,mr,ed⟩ rp).length ≤ 1048576 := by have h1 := mkQ_len ⟨al,↑N,mr,ed⟩ rp; have := RP.out.len; omega
        have hel2 : (rowsG al (nxQ ⟨al,↑N,mr,ed⟩ cc rp) rp.length).length ≤ 1048576 := by
         have h1 := rowsG_len al (nxQ ⟨al,↑N,mr,ed⟩ cc rp) rp.length;have := RP.out.len;have h3 : rp.length * al.length ≤ 4096 * 32 := Nat.mul_le_mul (by omega) hal;omega
        have QA : Hid (Au.At wr (quotV ⟨al,↑N,mr,ed⟩ cc rp) ⟨A1,c1,AM,cM,AE,cE⟩) := ⟨(HA.out.below S.out.below).al,S.out.ints 2 rfl,S.out.eds 3 rfl,Nat.le_trans hal (by decide),Nat.le_trans hml2 (by decide),Nat.le_trans hel2 (by decide)⟩;have MN : Hid (IsMin (canonV (quotV ⟨al,↑N,mr,ed⟩ cc rp)) L) := (QO.out.isMin (by show (0 : Int) < (N : Int); omega) HC0.out).congr fun u => (HLE.out u).symm;have b0 := ckC S.out 1 rfl 0 rfl;have b1 := ckC S.out 1 rfl 1 rfl;have b2 := ckC S.out 1 rfl 2 rfl;have b3 := ckC S.out 1 rfl 3 rfl;have CAN := Lib.hid (Canonical_c (quotV ⟨al,↑N,mr,ed⟩ cc rp) ⟨A1,c1,AM,cM,AE,cE⟩ wr QA.out QR.out.raw HAN.out hml2);clear QA QO;go_wp2_with fail
        refine CAN.out.mono ?_;rintro e w5 ⟨p5,rfl,HAO,hb⟩;have hsm := HAO.out.sm;have S5 : (SepW w (eAu (canonV (quotV ⟨al,↑N,mr,ed⟩ cc rp)) p5 ++ [eBlk (w.heap.size + 1) 35 [.slice none 0 0,.int .i64 0,.slice none 0 0,.slice none 0 0]]) w5) := (S.out.pick [4] (by decide)).news (AuOwn.sep HAO.out hb);have hal5 : (canonV (quotV ⟨al,↑N,mr,ed⟩ cc rp)).al = al := rfl;obtain ⟨mc,hmc⟩ : ∃ mc,canonV (quotV ⟨al,↑N,mr,ed⟩ cc rp) = mc := ⟨_,rfl⟩;rw [hmc] at S5 MN hsm hal5 ⊢;have HSM := Lib.hid hsm;have HAL5 := Lib.hid hal5;clear HAO hb S CAN hmc hsm hal5 b0 b1 b2 b3;dsimp only [Au.val];have SZ : (SepW w [eInts mc.al (.slice p5.A1 mc.al.length p5.c1),eInts mc.mr (.slice p5.A2 mc.mr.length p5.c2),eEds mc.ed (.slice p5.A3 mc.ed.length p5.c3),eBlk (w.heap.size + 1) 35 [.slice p5.A1 mc.al.length p5.c1,.int .i64 mc.n,.slice p5.A2 mc.mr.length p5.c2,.slice p5.A3 mc.ed.length p5.c3]] _) := ((((S5.out.set 3 rfl 0 (.slice p5.A1 mc.al.length p5.c1)).set 3 rfl 1 (.int .i64 mc.n)).set 3 rfl 2 (.slice p5.A2 mc.mr.length p5.c2)).set 3 rfl 3 (.slice p5.A3 mc.ed.length p5.c3));have r0 := ckC S5.out 3 rfl 0 rfl;have r1 := ckC S5.out 3 rfl 1 rfl;have r2 := ckC S5.out 3 rfl 2 rfl;have r3 := ckC S5.out 3 rfl 3 rfl;have f0 := BlkAt.free (S5.out.get 3 rfl) 0;have f1 := BlkAt.free (S5.out.get 3 rfl) 1;have f2 := BlkAt.free (S5.out.get 3 rfl) 2;have f3 := BlkAt.free (S5.out.get 3 rfl) 3;have t0 := ckC SZ.out 3 rfl 0 rfl;have t1 := ckC SZ.out 3 rfl 1 rfl;have t2 := ckC SZ.out 3 rfl 2 rfl
        have t3 := ckC SZ.out 3 rfl 3 rfl;go_wp2_with fail
        refine bodyPost_ret (v := .agg #[.slice p5.A1 mc.al.length p5.c1,.int .i64 mc.n,.slice p5.A2 mc.mr.length p5.c2,.slice p5.A3 mc.ed.length p5.c3]) (by simp [results,Tryd.results26,go_sem, *]) rfl ?_;exact ⟨mc,p5,rfl,SZ.out.pick [0,1,2] (by decide),⟨by have := HSM.out.1; omega,by have := HSM.out.2.1; omega,by have := HSM.out.2.2; omega⟩,MN.out,HAL5.out⟩
section

def prsOf (l : List Pr) : List (Int × Int) := l.map Pr.pr
def nxP (a b : Au) (l : List Pr) (i : Nat) (e : Int) : Int := posK (prsOf l) (stp2 a b ((prsOf l).getD i (-1,-1)) e)
def okQ (a b : Au) (ch : Bool → Bool → Bool) (v : Int × Int) : Bool := ch (inV a v.1 2) (inV b v.2 2)
def mkP (a b : Au) (ch : Bool → Bool → Bool) (l : List Pr) (k : Nat) : List Int := ((List.range k).filter fun i => okQ a b ch ((prsOf l).getD i (-1,-1))).map fun (i : Nat) => (i : Int)
def combV (a b : Au) (ch : Bool → Bool → Bool) (l : List Pr) : Au := ⟨unionV a.al b.al,l.length,mkP a b ch l l.length,rowsG (unionV a.al b.al) (nxP a b l) l.length⟩
theorem mkP_succ (a b : Au) (ch : Bool → Bool → Bool) (l : List Pr) (k : Nat) : mkP a b ch l (k + 1) = if okQ a b ch ((prsOf l).getD k (-1,-1)) then mkP a b ch l k ++ [(k : Int)] else mkP a b ch l k := by
 unfold mkP
 rw [List.range_succ,List.filter_append,List.map_append,List.filter_cons];split <;> simp
theorem mkP_len (a b : Au) (ch : Bool → Bool → Bool) (l : List Pr) (k : Nat) : (mkP a b ch l k).length ≤ k := by
 unfold mkP
 rw [List.length_map];exact Nat.le_trans (List.length_filter_le _ _) (by simp)
theorem mem_mkP {a b : Au} {ch : Bool → Bool → Bool} {l : List Pr} {k : Nat} (d : Nat) : (d : Int) ∈ mkP a b ch l k ↔ d < k ∧ okQ a b ch ((prsOf l).getD d (-1,-1)) = true := by
 unfold mkP
 simp only [List.mem_map,List.mem_filter,List.mem_range];constructor
 · rintro ⟨j,h,e⟩;obtain rfl : j = d := by omega
   exact h
 · exact fun h => ⟨d,h,rfl⟩
section
variable {a b : Au} {l : List Pr}
theorem prs_get {i : Nat} {p : Pr} (h : l[i]? = some p) : (prsOf l).getD i (-1,-1) = p.pr := by
 rw [List.getD_eq_getElem?_getD,prsOf,List.getElem?_map,h]; rfl
theorem PAll.live (ha : a.Right) (hb : b.Right) (h : PAll a b (unionV a.al b.al) l) : ¬ (-1,-1) ∈ prsOf l := by
 rcases h with ⟨_,_,rfl⟩ | h
 · simp [prsOf]
 · exact fun hm => h.lv _ hm rfl
theorem PAll.nd (h : PAll a b (unionV a.al b.al) l) : (prsOf l).Nodup := h.mem.2
theorem comb_right (ha : a.Right) (hb : b.Right) (h : PAll a b (unionV a.al b.al) l) (ch : Bool → Bool → Bool) (hN : (a.n.toNat + 1) * (b.n.toNat + 1) ≤ 4096) : (combV a b ch l).Right := by
 have hl := h.len ha hb;refine rowsG_right (setOk_union ha.al hb.al) (by omega) (fun i e hi he => ?_) (setOk_of ?_ fun x hx => ?_)
 · unfold nxP
   rcases posK_cases (prsOf l) (stp2 a b ((prsOf l).getD i (-1,-1)) e) with g | g
   · omega
   · rw [prsOf,List.length_map] at g;exact g.2
 · intro i j x y hij hx hy;have hpw : (mkP a b ch l l.length).Pairwise (· < ·) := by
    unfold mkP
    rw [List.pairwise_map];exact (List.Pairwise.filter _ List.pairwise_lt_range).imp fun h => by omega
   obtain ⟨h1,h2⟩ := List.getElem?_eq_some_iff.1 hx;obtain ⟨h3,h4⟩ := List.getElem?_eq_some_iff.1 hy;have := List.pairwise_iff_getElem.1 hpw i j h1 h3 hij;rw [h2,h4] at this;exact this
 · unfold mkP at hx
   simp only [List.mem_map,List.mem_filter,List.mem_range] at hx;obtain ⟨d,⟨hd,_⟩,rfl⟩ := hx;omega
theorem stp2_out (ha : a.Right) (hb : b.Right) {s : Int × Int} {e : Int} (he : ¬ e ∈ unionV a.al b.al) : stp2 a b s e = (-1,-1) := by
 have hm := mem_unionV _ a.al b.al (Nat.le_refl _) e;unfold stp2
 rw [← ha.next,← hb.next,ha.next_out (fun h => he (hm.2 (.inl h))),hb.next_out (fun h => he (hm.2 (.inr h)))]
theorem PAll.go (ha : a.Right) (hb : b.Right) (h : PAll a b (unionV a.al b.al) l) {s : Int × Int} (hs : s = (-1,-1) ∨ s ∈ prsOf l) (e : Int) : stp2 a b s e = (-1,-1) ∨ stp2 a b s e ∈ prsOf l := by
 rcases hs with rfl | hs
 · exact .inl (stp2_dead ha hb _ e rfl)
 · by_cases he : e ∈ unionV a.al b.al
   · rcases h with ⟨_,_,rfl⟩ | h
     · simp [prsOf] at hs
     · obtain ⟨j,hj,hjs⟩ := List.mem_iff_getElem.1 hs;have hj' : (l.map Pr.pr)[j]? = some s := by rw [← hjs]; exact List.getElem?_eq_getElem hj
       obtain ⟨w,hw⟩ := h.bf.word hj';obtain ⟨t,ht,hte⟩ := List.mem_iff_getElem.1 he;have hjl : j < l.length := by simpa [prsOf] using hj
       rcases h.bf.dn j s w t e hj' hw (by rw [List.getElem?_eq_getElem ht,hte]) (.inl hjl) with g | ⟨j',w',h1,_⟩
       · exact .inl g
       · exact .inr (List.mem_of_getElem? h1)
   · exact .inl (stp2_out ha hb he)
theorem PAll.start (ha : a.Right) (hb : b.Right) (h : PAll a b (unionV a.al b.al) l) : (a.st,b.st) = (-1,-1) ∨ (a.st,b.st) ∈ prsOf l := by
 rcases h with ⟨h1,h2,rfl⟩ | h
 · left; unfold Au.st; rw [if_pos h1,if_pos h2]
 · right
   exact List.mem_of_getElem? h.bf.z
theorem PAll.fold (ha : a.Right) (hb : b.Right) (h : PAll a b (unionV a.al b.al) l) : ∀ (w : List Int),(rn a w,rn b w) = (-1,-1) ∨ (rn a w,rn b w) ∈ prsOf l := by
 intro w;rw [← fold2 ha hb w];refine snoc_ind (P := fun w => w.foldl (stp2 a b) (a.st,b.st) = (-1,-1) ∨ w.foldl (stp2 a b) (a.st,b.st) ∈ prsOf l) (h.start ha hb) (fun w e ih => ?_) w;rw [List.foldl_append];exact h.go ha hb ih e
theorem comb_run (ha : a.Right) (hb : b.Right) (h : PAll a b (unionV a.al b.al) l) (ch : Bool → Bool → Bool) (hN : (a.n.toNat + 1) * (b.n.toNat + 1) ≤ 4096) (w : List Int) : rn (combV a b ch l) w = posK (prsOf l) (rn a w,rn b w) := by
 have hr := comb_right ha hb h ch hN;have hst : (combV a b ch l).st = posK (prsOf l) (a.st,b.st) := by
  rcases h with ⟨h1,h2,rfl⟩ | h
  · rw [posK_no (by simp [prsOf])];unfold Au.st
    rw [if_pos (show (combV a b ch []).n = 0 from rfl)]
  · have hz : (prsOf l)[0]? = some (a.st,b.st) := h.bf.z;rw [posK_get (l := prsOf l) h.nd hz];have hl : 0 < l.length := by have := (List.getElem?_eq_some_iff.1 hz).1; simpa [prsOf] using this
    unfold Au.st
    rw [if_neg]
    · rfl
    · show ¬ ((l.length : Nat) : Int) = 0
      omega
 unfold rn
 rw [hst,← fold2' ha hb w];refine rowsG_run hr (stp2 a b) (posK (prsOf l)) (fun s => s = (-1,-1) ∨ s ∈ prsOf l) (fun s e hs => h.go ha hb hs e) (fun s => ?_) (fun s e hs h0 he => ?_) (fun s e hs h0 => ?_) (fun s e hs he => ?_) w _ (h.start ha hb)
 · have := posK_cases (prsOf l) s;rw [show (prsOf l).length = l.length by simp [prsOf]] at this;exact this
 · have h1 := posK_some h0;have : nxP a b l (posK (prsOf l) s).toNat e = posK (prsOf l) (stp2 a b s e) := by
    unfold nxP
    rw [List.getD_eq_getElem?_getD,h1];rfl
   rw [this];rcases posK_cases (prsOf l) (stp2 a b s e) with g | g
   · rw [g]; rfl
   · rw [if_pos g.1]
 · have : ¬ s ∈ prsOf l := fun hm => by have := posK_mem.2 hm; omega
   rcases hs with rfl | hs
   · rw [stp2_dead ha hb _ e rfl]; exact h0
   · exact absurd hs this
 · rw [stp2_out ha hb he];exact posK_no (h.live ha hb)
where
 fold2' {a b : Au} (ha : a.Right) (hb : b.Right) (w : List Int) : w.foldl (stp2 a b) (a.st,b.st) = (runV a.ed a.st w,runV b.ed b.st w) := fold2 ha hb w
theorem comb_lang (ha : a.Right) (hb : b.Right) (h : PAll a b (unionV a.al b.al) l) {ch : Bool → Bool → Bool} (hch : ch false false = false) (hN : (a.n.toNat + 1) * (b.n.toNat + 1) ≤ 4096) (w : List Int) : rn (combV a b ch l) w ∈ (combV a b ch l).mr ↔ CoL a b ch w := by
 rw [comb_run ha hb h ch hN];have hlive := h.live ha hb;have hneg : ∀ c : Au,c.Right → ¬ (-1 : Int) ∈ c.mr := fun c hc hm => by have := (hc.mem hm).1; omega
 have dead : (rn a w,rn b w) = (-1,-1) → ¬ ch (decide (rn a w ∈ a.mr)) (decide (rn b w ∈ b.mr)) = true := fun e => by
  obtain ⟨e1,e2⟩ := Prod.mk.inj e;rw [e1,e2,decide_eq_false (hneg a ha),decide_eq_false (hneg b hb),hch];decide
 rcases h.fold ha hb w with g | g
 · rw [g,posK_no hlive];constructor
   · intro hm;have h1 := (comb_right ha hb h ch hN).mem hm;omega
   · exact fun hm => absurd hm.2 (dead g)
 · have h0 := posK_mem.2 g;have h1 := posK_some h0;have e : posK (prsOf l) (rn a w,rn b w) = (((posK (prsOf l) (rn a w,rn b w)).toNat : Nat) : Int) := (Int.toNat_of_nonneg h0).symm;rw [e];show _ ∈ mkP a b ch l l.length ↔ _
   rw [mem_mkP,List.getD_eq_getElem?_getD,h1];have hlt := (List.getElem?_eq_some_iff.1 h1).1;rw [show (prsOf l).length = l.length by simp [prsOf]] at hlt;have hov : ∀ x,x ∈ w → x ∈ unionV a.al b.al := fun x hx => by
    rw [mem_unionV _ _ _ (Nat.le_refl _)];by_cases k : 0 ≤ rn a w
    · exact .inl (rn_over ha w k x hx)
    · by_cases k2 : 0 ≤ rn b w
      · exact .inr (rn_over hb w k2 x hx)
      · exfalso
        refine hlive ?_;have e1 : rn a w = -1 := by rcases ha.rn_cases w with q | q <;> omega
        have e2 : rn b w = -1 := by rcases hb.rn_cases w with q | q <;> omega
        rw [e1,e2] at g;exact g
   unfold okQ CoL
   simp only [Option.getD_some,inV_two ha,inV_two hb];exact ⟨fun k => ⟨hov,k.2⟩,fun k => ⟨hlt,k.2⟩⟩
end
end
end Go.Proofs.YtkifgffhoenaoaaDoor
