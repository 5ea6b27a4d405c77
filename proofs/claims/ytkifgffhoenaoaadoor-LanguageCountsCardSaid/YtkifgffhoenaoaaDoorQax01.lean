/-
  What the row leans on.
-/
import Derived.Test.YtkifgffhoenaoaaDoorBas18
import Derived.Test.YtkifgffhoenaoaaDoorBas01
import Derived.WalkKit
import Derived.ProofKit
import Derived.OpenShut
import Derived.ShutString
import Derived.ChangeOld
import Derived.Below
import Derived.Lib.SmallJoins
import Derived.Deep.MidRow
import Derived.Test.YtkifgffhoenaoaaDoorBas04
import Derived.Test.YtkifgffhoenaoaaDoorBas03
import Derived.BigQuiet
import Derived.Test.YtkifgffhoenaoaaDoorBas11
import Derived.IntWalk
import Derived.Deep.QuietTactic
import Derived.Test.YtkifgffhoenaoaaDoorBas07
import Derived.Test.YtkifgffhoenaoaaDoorBas09
set_option linter.unusedSimpArgs false
set_option linter.unusedVariables false
namespace Go.Proofs.YtkifgffhoenaoaaDoor
open Go.RowKit
set_option maxRecDepth 100000
abbrev SepW (w : World) (es : List Ent) (V : World) : Prop := Hid (Sep w.heap.size w es V)

theorem fold2 {a b : Au} (ha : a.Right) (hb : b.Right) : ∀ w : List Int,w.foldl (stp2 a b) (a.st,b.st) = (rn a w,rn b w) := by
 refine snoc_ind rfl (fun w e ih => ?_);rw [List.foldl_append,ih];show (toV (stepOf a.ed) (rn a w) e,toV (stepOf b.ed) (rn b w) e) = _
 rw [rn_to ha,rn_to hb]
theorem union_nil {l : List Int} (h : incr l) : unionV l [] = l :=
 Rises.ext (R := fun x y : Int => x < y) (fun x h => by omega) (fun x y h k => by omega) (rises_unionV _ l [] (Nat.le_refl _) h.rises (fun i j x y _ hx => by simp at hx)) h.rises (fun w => by rw [mem_unionV _ _ _ (Nat.le_refl _)]; simp)
theorem pairs_le {a b : Au} (ha : a.Right) (hb : b.Right) (fs : List (Int × Int)) (hn : fs.Nodup) (rg : ∀ v,v ∈ fs → (v.1 = -1 ∨ 0 ≤ v.1 ∧ v.1 < a.n) ∧ (v.2 = -1 ∨ 0 ≤ v.2 ∧ v.2 < b.n)) : fs.length ≤ (a.n.toNat + 1) * (b.n.toNat + 1) := by
 have := sub_len (fs.map fun v => (v.1 + 1).toNat * (b.n.toNat + 1) + (v.2 + 1).toNat) (List.range ((a.n.toNat + 1) * (b.n.toNat + 1))) (by
  rw [List.nodup_iff_pairwise_ne,List.pairwise_map];refine List.Pairwise.imp_of_mem ?_ (List.nodup_iff_pairwise_ne.1 hn);intro x y hx hy hxy he;have h1 := rg x hx;have h2 := rg y hy;have b1 : (x.2 + 1).toNat < b.n.toNat + 1 := by rcases h1.2 with g | g <;> omega
  have b2 : (y.2 + 1).toNat < b.n.toNat + 1 := by rcases h2.2 with g | g <;> omega
  have e1 : (x.1 + 1).toNat = (y.1 + 1).toNat := by
   have := congrArg (· / (b.n.toNat + 1)) he;simp only [Nat.mul_comm _ (b.n.toNat + 1)] at this;rw [Nat.mul_add_div (by omega),Nat.mul_add_div (by omega),Nat.div_eq_of_lt b1,Nat.div_eq_of_lt b2] at this;omega
  rw [e1] at he;have e2 : (x.2 + 1).toNat = (y.2 + 1).toNat := by omega
  apply hxy
  have c1 : x.1 = y.1 := by rcases h1.1 with g | g <;> rcases h2.1 with k | k <;> omega
  have c2 : x.2 = y.2 := by rcases h1.2 with g | g <;> rcases h2.2 with k | k <;> omega
  exact Prod.ext c1 c2) (fun q hq => by
  obtain ⟨v,hv,rfl⟩ := List.mem_map.1 hq;have h1 := rg v hv;have b1 : (v.1 + 1).toNat ≤ a.n.toNat := by rcases h1.1 with g | g <;> omega
  have b2 : (v.2 + 1).toNat < b.n.toNat + 1 := by rcases h1.2 with g | g <;> omega
  rw [List.mem_range,Nat.add_mul,Nat.one_mul];have := Nat.mul_le_mul_right (b.n.toNat + 1) b1;omega)
 rw [List.length_map,List.length_range] at this;exact this
theorem rn_rg {a : Au} (ha : a.Right) (w : List Int) : rn a w = -1 ∨ 0 ≤ rn a w ∧ rn a w < a.n := ha.rn_cases w
theorem IsMin.size {m a b : Au} {ch : Bool → Bool → Bool} (ha : a.Right) (hb : b.Right) (h : IsMin m (CoL a b ch)) : m.n.toNat ≤ (a.n.toNat + 1) * (b.n.toNat + 1) := by
 obtain ⟨ws,hl,_,hw⟩ := h.ws;have key : ∀ (i : Nat),i < m.n.toNat → ∃ w,ws[i]? = some w ∧ rn m w = (i : Int) := fun i hi => by
  obtain ⟨w,hw'⟩ : ∃ w,ws[i]? = some w := ⟨_,List.getElem?_eq_getElem (by omega)⟩;exact ⟨w,hw',(hw i w hw').is⟩
 have := pairs_le ha hb (ws.map fun w => (rn a w,rn b w)) (by
  rw [List.nodup_iff_pairwise_ne,List.pairwise_map,List.pairwise_iff_getElem];intro i j hi hj hij he;have hi' := List.getElem?_eq_getElem hi;have hj' := List.getElem?_eq_getElem hj;have ri := (hw i _ hi').is;have rj := (hw j _ hj').is;obtain ⟨e1,e2⟩ := Prod.mk.inj he;have lu := (h.liv ws[i]).1 (by rw [ri]; omega);have lv := (h.liv ws[j]).1 (by rw [rj]; omega);have over : ∀ w,Liv (CoL a b ch) w → ∀ x,x ∈ w → x ∈ unionV a.al b.al := fun w ⟨v,hv⟩ x hx => hv.1 x (List.mem_append_left _ hx);have ou := over _ lu;have ov := over _ lv;have al : Alik (CoL a b ch) ws[i] ws[j] := fun x => by
   unfold CoL
   rw [rn_app,rn_app,rn_app,rn_app,e1,e2];refine and_congr_left fun _ => ⟨fun g y hy => ?_,fun g y hy => ?_⟩
   · rcases List.mem_append.1 hy with k | k
     · exact ov y k
     · exact g y (List.mem_append_right _ k)
   · rcases List.mem_append.1 hy with k | k
     · exact ou y k
     · exact g y (List.mem_append_right _ k)
  have := (h.alik (by rw [ri]; omega) (by rw [rj]; omega)).2 al;rw [ri,rj] at this;omega) (fun v hv => by
  obtain ⟨w,_,rfl⟩ := List.mem_map.1 hv;exact ⟨rn_rg ha w,rn_rg hb w⟩)
 rw [List.length_map,hl] at this;exact this
theorem CoL.comp {a : Au} (hi : incr a.al) (w : List Int) : CoL a Au.zero (fun x _ => !x) w ↔ (∀ x,x ∈ w → x ∈ a.al) ∧ ¬ rn a w ∈ a.mr := by
 unfold CoL
 rw [show Au.zero.al = [] from rfl,union_nil hi];simp
theorem wordsV_nodup9 {al : List Int} (h : al.Nodup) : ∀ n : Nat,(wordsV al n).Nodup
 | 0 => by simp [wordsV]
 | n + 1 => by
   have ih := wordsV_nodup9 h n;simp only [wordsV];rw [List.nodup_iff_pairwise_ne,List.pairwise_flatMap];refine ⟨fun w _ => ?_,?_⟩
   · rw [← List.nodup_iff_pairwise_ne];exact List.Pairwise.map _ (fun a b hab e => hab (by simpa using e)) h
   · refine (List.nodup_iff_pairwise_ne.1 ih).imp fun {u v} huv x hx y hy e => ?_;obtain ⟨p,_,rfl⟩ := List.mem_map.1 hx;obtain ⟨q,_,rfl⟩ := List.mem_map.1 hy;exact huv (List.append_inj' e rfl).1
theorem ndpLen9 {α : Type} [DecidableEq α] : ∀ (l l' : List α),l.Nodup → (∀ x,x ∈ l → x ∈ l') → l.length ≤ l'.length
 | [],_,_,_ => by simp
 | a :: l,l',hn,h => by
   rw [List.nodup_cons] at hn;have ha := h a (by simp);have := ndpLen9 l (l'.erase a) hn.2 fun x hx => (List.mem_erase_of_ne (by rintro rfl; exact hn.1 hx)).2 (h x (by simp [hx]));rw [List.length_erase_of_mem ha] at this;have := List.length_pos_of_mem ha;simp only [List.length_cons];omega
theorem ndpCount9 {α : Type} [DecidableEq α] {l l' : List α} {p : α → Bool} (h : l.Nodup) (h' : l'.Nodup) (hs : ∀ x,p x = true → (x ∈ l ↔ x ∈ l')) : l.countP p = l'.countP p := by
 rw [List.countP_eq_length_filter,List.countP_eq_length_filter];refine Nat.le_antisymm (ndpLen9 _ _ (h.filter p) fun x hx => ?_) (ndpLen9 _ _ (h'.filter p) fun x hx => ?_)
 · rw [List.mem_filter] at hx ⊢; exact ⟨(hs x hx.2).1 hx.1,hx.2⟩
 · rw [List.mem_filter] at hx ⊢; exact ⟨(hs x hx.2).2 hx.1,hx.2⟩

theorem cntL_more9 {a : Au} (hr : a.Right) {P : Int → Bool} (hP : P (-1) = false) {al : List Int} (hal : al.Nodup) (hs : ∀ x,x ∈ a.al → x ∈ al) (n : Nat) : cntL a P n = (wordsV al n).countP fun w => P (rn a w) :=
 ndpCount9 (wordsV_nodup9 (incr_nodup hr.al.incr) n) (wordsV_nodup9 hal n) fun w hw => by
  have h0 : 0 ≤ rn a w := by
   rcases hr.rn_cases w with h | h
   · rw [h,hP] at hw; cases hw
   · exact h.1
  rw [mem_wordsV,mem_wordsV];exact ⟨fun ⟨h1,h2⟩ => ⟨h1,fun e he => hs e (h2 e he)⟩,fun ⟨h1,_⟩ => ⟨h1,rn_events hr w h0⟩⟩
theorem countP_both {α : Type} (p q : α → Bool) : ∀ l : List α,l.countP p + l.countP q = l.countP (fun x => p x || q x) + l.countP (fun x => p x && q x)
 | [] => rfl
 | x :: l => by
   have := countP_both p q l;simp only [List.countP_cons];cases p x <;> cases q x <;> simp <;> omega
theorem cnt_two {a : Au} (ha : a.Right) (k : Nat) : cnt a 2 k = cntL a (fun s => decide (s ∈ a.mr)) k := by
 unfold cnt
 simp only [inV_two ha]
theorem mr_neg {a : Au} (ha : a.Right) : decide ((-1 : Int) ∈ a.mr) = false := by
 have : ¬ (-1 : Int) ∈ a.mr := fun h => by have := (ha.mem h).1; omega
 simp [this]
theorem IsMin.count {a b m : Au} {ch : Bool → Bool → Bool} (ha : a.Right) (hb : b.Right) (h : IsMin m (CoL a b ch)) (hal : m.al = unionV a.al b.al) (k : Nat) :
 cnt m 2 k = (wordsV (unionV a.al b.al) k).countP fun w => ch (decide (rn a w ∈ a.mr)) (decide (rn b w ∈ b.mr)) := by
 rw [cnt_two h.rt,cntL,hal];refine List.countP_congr fun w hw => ?_;have h1 := h.lang w;have h2 := (mem_wordsV.1 hw).2;unfold CoL at h1
 rw [decide_eq_true_eq,h1];exact ⟨fun h => h.2,fun h => ⟨h2,h⟩⟩
theorem cnt_sum {a b u i : Au} (ha : a.Right) (hb : b.Right) (hu : IsMin u (CoL a b fun x y => x || y)) (hul : u.al = unionV a.al b.al) (hi : IsMin i (CoL a b fun x y => x && y)) (hil : i.al = unionV a.al b.al) (k : Nat) :
 cnt a 2 k + cnt b 2 k = cnt u 2 k + cnt i 2 k := by
 have hn := incr_nodup (setOk_union ha.al hb.al).incr;rw [hu.count ha hb hul,hi.count ha hb hil,cnt_two ha,cnt_two hb,
  cntL_more9 ha (mr_neg ha) hn (fun x hx => (mem_unionV _ _ _ (Nat.le_refl _) x).2 (.inl hx)),
  cntL_more9 hb (mr_neg hb) hn (fun x hx => (mem_unionV _ _ _ (Nat.le_refl _) x).2 (.inr hx))]
 exact countP_both _ _ _
theorem cnt_le (a : Au) (kind : Int) (k : Nat) : cnt a kind k ≤ a.al.length ^ k := by
 rw [← wordsV_len];exact List.countP_le_length
theorem cnt_small {a : Au} {kind : Int} {k m : Nat} (hm : a.al.length ≤ m) (hk : k ≤ 8) (h : m ≤ 10) : cnt a kind k ≤ 1125899906842624 := by
 refine Nat.le_trans (cnt_le a kind k) ?_;have h1 : a.al.length ^ k ≤ 10 ^ k := Nat.pow_le_pow_left (by omega) k;have h2 : 10 ^ k ≤ 10 ^ 8 := Nat.pow_le_pow_right (by decide) hk;omega
theorem union_len {a b : Au} (ha : a.Right) (hb : b.Right) : (unionV a.al b.al).length ≤ a.al.length + b.al.length := by
 rw [← List.length_append];exact ndpLen9 _ _ (incr_nodup (setOk_union ha.al hb.al).incr) fun x hx => List.mem_append.2 ((mem_unionV _ _ _ (Nat.le_refl _) x).1 hx)
def cntsV (a : Au) (kind : Int) (len : Nat) : List Int := (List.range len).map fun j => ((cnt a kind j : Nat) : Int)
theorem cntsV_len (a : Au) (kind : Int) (len : Nat) : (cntsV a kind len).length = len := by simp [cntsV]
theorem cntsV_get {a : Au} {kind : Int} {len j : Nat} (h : j < len) : (cntsV a kind len)[j]? = some ((cnt a kind j : Nat) : Int) := by simp [cntsV,h]
theorem cntsV_succ (a : Au) (kind : Int) (len : Nat) : cntsV a kind (len + 1) = cntsV a kind len ++ [((cnt a kind len : Nat) : Int)] := by simp [cntsV,List.range_succ]
theorem sumB_cap (f : Nat → Nat) (P : Nat → Bool) (lim : Nat) : ∀ N : Nat,sumB (fun s => min (f s) lim) P N ≤ lim → sumB (fun s => min (f s) lim) P N < lim → sumB f P N = sumB (fun s => min (f s) lim) P N
 | 0,_,_ => rfl
 | N + 1,h1,h2 => by
   rw [sumB_succ] at h1 h2 ⊢;rw [sumB_succ];have ih := sumB_cap f P lim N (by omega) (by omega);rw [ih];congr 1
   by_cases h : P N = true
   · simp only [h,if_true] at h2 ⊢; omega
   · simp [h]
theorem sumB_le (f : Nat → Nat) (P : Nat → Bool) (lim : Nat) : ∀ N : Nat,sumB (fun s => min (f s) lim) P N ≤ sumB f P N
 | 0 => Nat.le_refl _
 | N + 1 => by
   rw [sumB_succ,sumB_succ];have ih := sumB_le f P lim N;have : (if P N = true then min (f N) lim else 0) ≤ if P N = true then f N else 0 := by split <;> omega
   omega
theorem sumB_top (f : Nat → Nat) (P : Nat → Bool) (lim : Nat) : ∀ N : Nat,sumB (fun s => min (f s) lim) P N ≤ N * lim
 | 0 => by simp [sumB]
 | N + 1 => by
   rw [sumB_succ,Nat.succ_mul];have ih := sumB_top f P lim N;have : (if P N = true then min (f N) lim else 0) ≤ lim := by split <;> omega
   omega
section
open Go.ChangeShapes Go.WideShapes Go.ChangeAt Go.RowKit

section
variable {H : Type} {enc : TypeId × Value → H} {P : Program} {w : World} {base : Nat} {spare : Nat → Bool} {held : Bool}

def consec (P : Program) : List Field → Nat → Nat → Bool
 | [],n,m => n == m
 | f :: r,n,m => f.offset == n && consec P r (n + P.cellsOf f.type) m
theorem consec_cut {P : Program} : ∀ (fs : List Field) (n m : Nat) (cs : List Value),consec P fs n m = true → cs.length = m →
 n ≤ m ∧ cs.drop n = (fs.map fun f => (cs.drop f.offset).take (P.cellsOf f.type)).flatten ∧ ∀ f,f ∈ fs → ((cs.drop f.offset).take (P.cellsOf f.type)).length = P.cellsOf f.type := by
 intro fs;induction fs with
 | nil =>
   intro n m cs h hl;have : n = m := by simpa [consec] using h
   subst this;exact ⟨Nat.le_refl _,by simp [hl],fun f hf => by cases hf⟩
 | cons f r ih =>
   intro n m cs h hl;simp only [consec,Bool.and_eq_true,beq_iff_eq] at h;obtain ⟨h1,h2⟩ := h;obtain ⟨g1,g2,g3⟩ := ih _ _ cs h2 hl;refine ⟨by omega,?_,fun x hx => ?_⟩
   · simp only [List.map_cons,List.flatten_cons];rw [← g2,h1,← List.drop_drop,List.take_append_drop]
   · rcases List.mem_cons.1 hx with rfl | hx
     · rw [List.length_take,List.length_drop]; omega
     · exact g3 x hx

theorem st_of {t : TypeId} {fs : List Field} (ht : P.underlying t = some (.struct fs.toArray)) (hc : consec P fs 0 (P.cellsOf t) = true) {fuel : Nat} {cs : List Value} {x : DataW H × List MemPlace}
 (h : DataW.trod enc P w base spare held fuel t cs = some x) :
 ∃ css : List (List Value),cs = css.flatten ∧ css.length = fs.length ∧ ∀ (i : Nat) (f : Field),fs[i]? = some f → ∃ (c : List Value) (y : DataW H × List MemPlace) (n : Nat),css[i]? = some c ∧ c.length = P.cellsOf f.type ∧ DataW.trod enc P w base spare held n f.type c = some y := by
 obtain ⟨xs,n,_,_,hl,hlen,hf⟩ := DataW.trod_struct ht h;obtain ⟨_,g2,g3⟩ := consec_cut fs 0 _ cs hc hl;refine ⟨fs.map fun f => (cs.drop f.offset).take (P.cellsOf f.type),by simpa using g2,by simp,fun i f hfi => ?_⟩;have h1 := hf i f (by simpa using hfi);have hi : i < fs.length := (List.getElem?_eq_some_iff.1 hfi).1;rw [List.getElem?_eq_getElem (by simp at hlen; omega)] at h1;exact ⟨_,_,n,by rw [List.getElem?_map,hfi]; rfl,g3 f (List.mem_of_getElem? hfi),h1⟩
theorem st2_of {t : TypeId} {f0 f1 : Field} (ht : P.underlying t = some (.struct #[f0,f1])) (hc : consec P [f0,f1] 0 (P.cellsOf t) = true) {fuel : Nat} {cs : List Value} {x : DataW H × List MemPlace}
 (h : DataW.trod enc P w base spare held fuel t cs = some x) :
 ∃ (c0 c1 : List Value) (y0 y1 : DataW H × List MemPlace) (n0 n1 : Nat),cs = c0 ++ c1 ∧ DataW.trod enc P w base spare held n0 f0.type c0 = some y0 ∧ DataW.trod enc P w base spare held n1 f1.type c1 = some y1 := by
 obtain ⟨css,rfl,hl,hf⟩ := st_of (fs := [f0,f1]) ht hc h;match css,hl with
 | [c0,c1],_ =>
   obtain ⟨_,y0,n0,e0,_,t0⟩ := hf 0 f0 rfl;obtain ⟨_,y1,n1,e1,_,t1⟩ := hf 1 f1 rfl;cases e0; cases e1
   exact ⟨c0,c1,y0,y1,n0,n1,by simp,t0,t1⟩
end
end
section

abbrev Rep (α : Type) := (Nat → Prop) → World → α → List Value → Prop
structure RepOk {α : Type} (R : Rep α) : Prop where
 keep : ∀ {F : Nat → Prop} {w w' : World} {x : α} {vs : List Value},w.heap.size ≤ w'.heap.size → (∀ b,F b → b < w.heap.size → w'.heap[b]? = w.heap[b]?) → R F w x vs → R F w' x vs
 mono : ∀ {F G : Nat → Prop} {w : World} {x : α} {vs : List Value},(∀ b,F b → b < w.heap.size → G b) → R F w x vs → R G w x vs
def Rd {α : Type} (R : Rep α) : Reading α := fun w x vs => R (fun _ => True) w x vs
theorem RepOk.rd {α : Type} {R : Rep α} (h : RepOk R) {F : Nat → Prop} {w : World} {x : α} {vs : List Value} (hr : R F w x vs) : Rd R w x vs := h.mono (fun _ _ _ => trivial) hr
theorem RepOk.stays {α : Type} {R : Rep α} (h : RepOk R) : Stays (Rd R) := fun _ _ _ _ hb hr => h.keep hb.size (fun b _ hlt => hb.block b hlt) hr
theorem RepOk.below {α : Type} {R : Rep α} (h : RepOk R) {F : Nat → Prop} {w w' : World} {x : α} {vs : List Value} (hr : R F w x vs) (hb : Below w.heap.size w w') : R F w' x vs := h.keep hb.size (fun b _ hlt => hb.block b hlt) hr
theorem RepOk.grown {α : Type} {R : Rep α} (h : RepOk R) {F : Nat → Prop} {w w' : World} {row : Option Nat} {x : α} {vs : List Value} (hr : R F w x vs) (hg : w.grownBy w' row) (hF : ∀ b,F b → some b ≠ row) : R F w' x vs :=
 h.keep hg.size (fun b hb hlt => hg.block b hlt (hF b hb)) hr
theorem RepOk.setCell {α : Type} {R : Rep α} (h : RepOk R) {F : Nat → Prop} {w : World} {p : Addr} {u : Value} {x : α} {vs : List Value} (hr : R F w x vs) (hF : ∀ b,F b → b ≠ p.block) : R F (w.setCell p u) x vs :=
 h.keep (by simp) (fun b hb hlt => Below.heap_setCell w p u b (hF b hb)) hr

def PlR {α : Type} (enc : α → List Value) : Rep α := fun _ _ x vs => vs = enc x
theorem PlR.ok {α : Type} (enc : α → List Value) : RepOk (PlR enc) := ⟨fun _ _ h => h,fun _ h => h⟩
abbrev IntR : Rep Int := PlR encI
def SlR {α : Type} (R : Rep α) (k : Nat) : Rep (List α) := fun F w l vs => ∃ (A : Option Addr) (c : Nat),vs = [.slice A l.length c] ∧ l.length ≤ 140737488355328 ∧
 (l ≠ [] → ∃ b off,A = some ⟨b,off,none⟩ ∧ F b ∧ b < w.heap.size ∧ ∀ (i : Nat) (x : α),l[i]? = some x → ∃ us : List Value,us.length = k ∧ R F w x us ∧ ∀ (j : Nat) (u : Value),us[j]? = some u → w.cell? ⟨b,off + i * k + j,none⟩ = some u)
theorem SlR.ok {α : Type} {R : Rep α} (h : RepOk R) (k : Nat) : RepOk (SlR R k) := by
 constructor
 · rintro F w w' l vs hz hk ⟨A,c,e,hl,hr⟩;refine ⟨A,c,e,hl,fun hne => ?_⟩;obtain ⟨b,off,hA,hF,hlt,hc⟩ := hr hne;refine ⟨b,off,hA,hF,by omega,fun i x hx => ?_⟩;obtain ⟨us,h1,h2,h3⟩ := hc i x hx;exact ⟨us,h1,h.keep hz hk h2,fun j u hj => (World.cell?_of_block (a := ⟨b,_,none⟩) (hk b hF hlt)).trans (h3 j u hj)⟩
 · rintro F G w l vs hk ⟨A,c,e,hl,hr⟩;refine ⟨A,c,e,hl,fun hne => ?_⟩;obtain ⟨b,off,hA,hF,hlt,hc⟩ := hr hne;refine ⟨b,off,hA,hk b hF hlt,hlt,fun i x hx => ?_⟩;obtain ⟨us,h1,h2,h3⟩ := hc i x hx;exact ⟨us,h1,h.mono hk h2,h3⟩
theorem SlR.nil {α : Type} {R : Rep α} {k : Nat} {F : Nat → Prop} {w : World} : SlR R k F w [] [.slice none 0 0] := ⟨none,0,rfl,by simp,fun h => absurd rfl h⟩
theorem SlR.at_ {α : Type} {R : Rep α} {k : Nat} {F : Nat → Prop} {w : World} {l : List α} {A : Option Addr} {n c : Nat} (hR : RepOk R) (h : SlR R k F w l [.slice A n c]) : n = l.length ∧ l.length ≤ 140737488355328 ∧ SlAt (Rd R) k w A l := by
 obtain ⟨A',c',e,hl,hr⟩ := h;cases e;refine ⟨rfl,hl,fun hne => ?_⟩;obtain ⟨b,off,hA,_,hlt,hc⟩ := hr hne;refine ⟨b,off,hA,hlt,fun i x hx => ?_⟩;obtain ⟨us,h1,h2,h3⟩ := hc i x hx;exact ⟨us,h1,hR.rd h2,h3⟩
theorem SlR.form {α : Type} {R : Rep α} {k : Nat} {F : Nat → Prop} {w : World} {l : List α} {vs : List Value} (h : SlR R k F w l vs) : ∃ A c,vs = [.slice A l.length c] := by
 obtain ⟨A,c,e,_⟩ := h;exact ⟨A,c,e⟩
theorem SlR.of_at {α : Type} {R : Rep α} {k : Nat} {w : World} {l : List α} {A : Option Addr} {c : Nat} (h : SlAt (Rd R) k w A l) (hl : l.length ≤ 140737488355328) : SlR R k (fun _ => True) w l [.slice A l.length c] := by
 refine ⟨A,c,rfl,hl,fun hne => ?_⟩;obtain ⟨b,off,hA,hlt,hc⟩ := h hne;exact ⟨b,off,hA,trivial,hlt,fun i x hx => by
  obtain ⟨us,h1,h2,h3⟩ := hc i x hx;exact ⟨us,h1,h2,h3⟩⟩
theorem SlAt.ints {w : World} {A : Option Addr} {l : List Int} (h : SlAt (Rd IntR) 1 w A l) : IntsAt w A l := h

theorem flat_at {k : Nat} : ∀ (raw : List (List Value)) (h : ∀ x,x ∈ raw → x.length = k) (i j : Nat) (x : List Value),raw[i]? = some x → j < k → raw.flatten[i * k + j]? = x[j]? := by
 intro raw;induction raw with
 | nil => intro h i j x hx; simp at hx
 | cons a r ih =>
   intro h i j x hx hj;have ha : a.length = k := h a (by simp);cases i with
   | zero =>
     simp at hx; subst hx
     rw [List.flatten_cons,Nat.zero_mul,Nat.zero_add,List.getElem?_append_left (by omega)]
   | succ i =>
     simp at hx
     rw [List.flatten_cons,List.getElem?_append_right (by rw [ha,Nat.succ_mul]; omega),ha,show (i + 1) * k + j - k = i * k + j from by rw [Nat.succ_mul]; omega];exact ih (fun x hx => h x (by simp [hx])) i j x hx hj
structure OwnR {α : Type} (R : Rep α) (k T B : Nat) (X : Nat → Prop) (l : List α) (v : Value) (w : World) : Prop where
 raw : ∃ raw : List (List Value),raw.length = l.length ∧ w.ownsRow B T k v l.length raw.flatten ∧ (∀ x,x ∈ raw → x.length = k) ∧ ∀ (i : Nat) (x : α) (vs : List Value),l[i]? = some x → raw[i]? = some vs → R (fun b => B ≤ b ∧ ¬ X b ∧ some b ≠ v.ownBlock) w x vs
 far : ∀ b,X b → some b ≠ v.ownBlock
section
variable {α : Type} {R : Rep α} {k T B : Nat} {X : Nat → Prop} {l : List α} {v : Value} {w w' : World}
theorem OwnR.nil (w : World) : OwnR R k T B X [] (.slice none 0 0) w := ⟨⟨[],rfl,World.ownsRow_nil ..,fun x h => absurd h (by simp),fun i x vs h => absurd h (by simp)⟩,fun b _ => by simp [Value.ownBlock]⟩
theorem OwnR.form (h : OwnR R k T B X l v w) : ∃ A c,v = .slice A l.length c := by
 obtain ⟨raw,_,h2,_⟩ := h.raw;exact own_form h2
theorem OwnR.lt (h : OwnR R k T B X l v w) : ∀ j,v.ownBlock = some j → B ≤ j ∧ j < w.heap.size := by
 obtain ⟨raw,_,h2,_⟩ := h.raw;exact World.ownsRow.lt h2
theorem OwnR.keep (hR : RepOk R) (h : OwnR R k T B X l v w) (hz : w.heap.size ≤ w'.heap.size) (hk : ∀ b,B ≤ b → ¬ X b → b < w.heap.size → w'.heap[b]? = w.heap[b]?) : OwnR R k T B X l v w' := by
 obtain ⟨⟨raw,h1,h2,h3,h4⟩,far⟩ := h;refine ⟨⟨raw,h1,⟨h2.1,?_⟩,h3,fun i x vs hx hv => hR.keep hz (fun b hb hlt => hk b hb.1 hb.2.1 hlt) (h4 i x vs hx hv)⟩,far⟩;rcases h2.2 with h | ⟨g,cap,cur,r1,r2,r3,r4⟩
 · exact .inl h
 · subst r1;exact .inr ⟨g,cap,cur,rfl,r2,(hk g r2 (fun hx => far g hx rfl) (Array.getElem?_eq_some_iff.1 r3).1).trans r3,r4⟩
theorem OwnR.below (hR : RepOk R) (h : OwnR R k T B X l v w) (hb : Below w.heap.size w w') : OwnR R k T B X l v w' := h.keep hR hb.size fun b _ _ hlt => hb.block b hlt
theorem OwnR.alloc (hR : RepOk R) (h : OwnR R k T B X l v w) (o : Obj) : OwnR R k T B X l v (w.alloc o) := h.below hR (Below.new w o)
theorem OwnR.drew (hR : RepOk R) (h : OwnR R k T B X l v w) : OwnR R k T B X l v w.drew := h.below hR (Below.refl _ _).drew
theorem OwnR.grown {row : Option Nat} (hR : RepOk R) (h : OwnR R k T B X l v w) (hg : w.grownBy w' row) (hr : ∀ j,row = some j → j < B ∨ X j) : OwnR R k T B X l v w' :=
 h.keep hR hg.size fun b hB hX hlt => hg.block b hlt (fun e => (hr b e.symm).elim (fun h => absurd hB (by omega)) hX)
theorem OwnR.setCell (hR : RepOk R) (h : OwnR R k T B X l v w) {p : Addr} {u : Value} (hp : p.block < B ∨ X p.block) : OwnR R k T B X l v (w.setCell p u) :=
 h.keep hR (by simp) fun b hB hX _ => Below.heap_setCell w p u b (fun e => hp.elim (fun h => by omega) (fun h => hX (e ▸ h)))
theorem OwnR.base {B' : Nat} (hR : RepOk R) (h : OwnR R k T B X l v w) (hB : B' ≤ B) : OwnR R k T B' X l v w := by
 obtain ⟨⟨raw,h1,h2,h3,h4⟩,far⟩ := h;refine ⟨⟨raw,h1,⟨h2.1,?_⟩,h3,fun i x vs hx hv => hR.mono (fun b hb _ => ⟨Nat.le_trans hB hb.1,hb.2⟩) (h4 i x vs hx hv)⟩,far⟩;rcases h2.2 with h | ⟨g,cap,cur,r1,r2,r3⟩
 · exact .inl h
 · exact .inr ⟨g,cap,cur,r1,Nat.le_trans hB r2,r3⟩
def NoBlk : Nat → Prop := fun _ => False
def Beside (X : Nat → Prop) (v : Value) : Nat → Prop := fun b => X b ∨ some b = v.ownBlock
theorem Beside.lt {v : Value} {n : Nat} (h : ∀ j,v.ownBlock = some j → j < n) : ∀ b,Beside NoBlk v b → b < n := fun b hb => hb.elim False.elim fun e => h b e.symm
theorem OwnR.rep (hR : RepOk R) (h : OwnR R k T B X l v w) (hk : 0 < k) (hl : l.length ≤ 140737488355328) : SlR R k (fun b => B ≤ b ∧ ¬ X b) w l [v] := by
 obtain ⟨⟨raw,h1,h2,h3,h4⟩,far⟩ := h;rcases h2.2 with ⟨rfl,h0⟩ | ⟨g,cap,cur,rfl,r1,r2,r3⟩
 · have : l = [] := List.eq_nil_of_length_eq_zero h0;subst this;exact SlR.nil
 · refine ⟨some ⟨g,0,none⟩,cap,rfl,hl,fun _ => ⟨g,0,rfl,⟨r1,fun hX => far g hX rfl⟩,(Array.getElem?_eq_some_iff.1 r2).1,fun i x hx => ?_⟩⟩;have hi := (List.getElem?_eq_some_iff.1 hx).1;obtain ⟨vs,hv⟩ : ∃ vs,raw[i]? = some vs := ⟨_,List.getElem?_eq_getElem (by omega)⟩;have hvk := h3 vs (List.mem_of_getElem? hv);refine ⟨vs,hvk,hR.mono (fun b hb _ => ⟨hb.1,hb.2.1⟩) (h4 i x vs hx hv),fun j u hj => ?_⟩;have hj' : j < k := by have := (List.getElem?_eq_some_iff.1 hj).1; omega
   have hlt : i * k + j < l.length * k := by
    have : (i + 1) * k ≤ l.length * k := Nat.mul_le_mul_right k hi;rw [Nat.succ_mul] at this; omega
   rw [Nat.zero_add,h2.cellAt _ hlt,flat_at raw h3 i j vs hv hj',hj]
end
theorem OwnR.at_ {α : Type} {R : Rep α} {k T B : Nat} {X : Nat → Prop} {l : List α} {w : World} {A : Option Addr} {c : Nat} (hR : RepOk R) (h : OwnR R k T B X l (.slice A l.length c) w) (hk : 0 < k) (hl : l.length ≤ 140737488355328) : SlAt (Rd R) k w A l := (SlR.at_ hR (h.rep hR hk hl)).2.2

end
section

structure Pr where
 x : Int
 y : Int
 w : List Int
def Pr.pr (p : Pr) : Int × Int := (p.x,p.y)

theorem Bfs.short {α : Type} {stp : α → Int → α} {s0 : α} {dead : α → Prop} {evs : List Int} {i k : Nat} {vs : List α} {ws : List (List Int)} (h : Bfs stp s0 dead evs i k vs ws) : ∀ (j : Nat) (w : List Int),ws[j]? = some w → w.length ≤ j := by
 intro j;induction j using Nat.strongRecOn with
 | ind j ih =>
   intro w hw;by_cases h0 : j = 0
   · subst h0; rw [h.zw] at hw; cases hw; simp
   · obtain ⟨b,u,e,_,hb,hu,rfl⟩ := h.pre j w (by omega) hw;have := ih b hb u hu;simp; omega

structure PBfs (a b : Au) (evs : List Int) (i k : Nat) (l : List Pr) : Prop where
 bf : Bfs (stp2 a b) (a.st,b.st) (fun s => s = (-1,-1)) evs i k (l.map Pr.pr) (l.map Pr.w)
 nd : (l.map Pr.pr).Nodup
 rg : ∀ v,v ∈ l.map Pr.pr → rgP a b v
 lv : ∀ v,v ∈ l.map Pr.pr → v ≠ (-1,-1)
section
variable {a b : Au} {evs : List Int} {i k : Nat} {l : List Pr}
theorem PBfs.start (ha : a.Right) (hb : b.Right) (hn : ¬ (a.n = 0 ∧ b.n = 0)) : PBfs a b evs 0 0 [⟨a.st,b.st,[]⟩] := by
 refine ⟨Bfs.start,by simp,fun v hv => ?_,fun v hv => ?_⟩
 · simp only [List.map_cons,List.map_nil,List.mem_singleton] at hv;subst hv;exact rgP_start ha hb
 · simp only [List.map_cons,List.map_nil,List.mem_singleton] at hv;subst hv;intro h;obtain ⟨h1,h2⟩ := Prod.mk.inj h;have e : ∀ c : Au,c.st = -1 → c.n = 0 := fun c hc => by
    unfold Au.st at hc
    split at hc
    · assumption
    · omega
   exact hn ⟨e a h1,e b h2⟩
theorem PBfs.len (ha : a.Right) (hb : b.Right) (h : PBfs a b evs i k l) : l.length ≤ (a.n.toNat + 1) * (b.n.toNat + 1) := by
 have := pairs_le ha hb (l.map Pr.pr) h.nd h.rg;rwa [List.length_map] at this
theorem PBfs.word (h : PBfs a b evs i k l) {j : Nat} {p : Pr} (hp : l[j]? = some p) : p.w.length ≤ j := h.bf.short j p.w (by rw [List.getElem?_map,hp]; rfl)
theorem PBfs.skip (hinc : incr evs) (h : PBfs a b evs i k l) {p : Pr} {e : Int} (hv : l[i]? = some p) (he : evs[k]? = some e) (hs : stp2 a b p.pr e = (-1,-1) ∨ stp2 a b p.pr e ∈ l.map Pr.pr) : PBfs a b evs i (k + 1) l :=
 ⟨h.bf.skip hinc (show (l.map Pr.pr)[i]? = some p.pr by rw [List.getElem?_map,hv]; rfl) he (hs.imp id fun hm => by
  obtain ⟨j,hj,e'⟩ := List.mem_iff_getElem.1 hm;exact ⟨j,by rw [List.getElem?_eq_getElem hj,e']⟩),h.nd,h.rg,h.lv⟩
theorem PBfs.push (ha : a.Right) (hb : b.Right) (hinc : incr evs) (h : PBfs a b evs i k l) {p : Pr} {e : Int} (hv : l[i]? = some p) (he : evs[k]? = some e) (h1 : ¬ stp2 a b p.pr e = (-1,-1)) (h2 : ¬ stp2 a b p.pr e ∈ l.map Pr.pr) : PBfs a b evs i (k + 1) (l ++ [⟨(stp2 a b p.pr e).1,(stp2 a b p.pr e).2,p.w ++ [e]⟩]) := by
 have hpr : Pr.pr ⟨(stp2 a b p.pr e).1,(stp2 a b p.pr e).2,p.w ++ [e]⟩ = stp2 a b p.pr e := rfl;refine ⟨?_,?_,fun v hv' => ?_,fun v hv' => ?_⟩
 · rw [List.map_append,List.map_append];exact h.bf.push hinc (show (l.map Pr.pr)[i]? = some p.pr by rw [List.getElem?_map,hv]; rfl) he (show (l.map Pr.w)[i]? = some p.w by rw [List.getElem?_map,hv]; rfl)
 · rw [List.map_append,List.nodup_append];exact ⟨h.nd,by simp,fun x hx y hy => by
    simp only [List.map_cons,List.map_nil,List.mem_singleton] at hy;subst hy;rintro rfl;exact h2 hx⟩
 · rw [List.map_append] at hv';rcases List.mem_append.1 hv' with g | g
   · exact h.rg v g
   · simp only [List.map_cons,List.map_nil,List.mem_singleton] at g;subst g;exact rgP_step ha hb _ _
 · rw [List.map_append] at hv';rcases List.mem_append.1 hv' with g | g
   · exact h.lv v g
   · simp only [List.map_cons,List.map_nil,List.mem_singleton] at g;subst g;exact h1
theorem PBfs.next (h : PBfs a b evs i evs.length l) : PBfs a b evs (i + 1) 0 l := ⟨h.bf.next,h.nd,h.rg,h.lv⟩
end
def PAll (a b : Au) (evs : List Int) (l : List Pr) : Prop := (a.n = 0 ∧ b.n = 0 ∧ l = []) ∨ PBfs a b evs l.length 0 l
theorem stp2_dead {a b : Au} (ha : a.Right) (hb : b.Right) (s : Int × Int) (e : Int) (h : s = (-1,-1)) : stp2 a b s e = (-1,-1) := by
 subst h;simp only [stp2,ha.to_neg,hb.to_neg]
theorem PAll.least {a b : Au} (ha : a.Right) (hb : b.Right) {evs : List Int} {l : List Pr} (h : PAll a b evs l) {P : Int × Int → Prop} (hP : ¬ P (-1,-1)) {i : Nat} {p : Pr} (hno : ∀ j q,j < i → l[j]? = some q → ¬ P q.pr) (hp : l[i]? = some p) (hy : P p.pr) : LeastW (LeadsTo (stp2 a b) (a.st,b.st) evs P) p.w := by
 rcases h with ⟨_,_,rfl⟩ | h
 · simp at hp
 · have hil := (List.getElem?_eq_some_iff.1 hp).1;have h0 : LeadsTo (stp2 a b) (a.st,b.st) evs P p.w := ⟨h.bf.over p.w (List.mem_map.2 ⟨p,List.mem_of_getElem? hp,rfl⟩),by
    rw [h.bf.run i p.pr p.w (by rw [List.getElem?_map,hp]; rfl) (by rw [List.getElem?_map,hp]; rfl)]; exact hy⟩
   refine ⟨h0,fun u hu => ?_⟩;rcases h.bf.claim (fun s e hs => stp2_dead ha hb s e hs) u hu.1 with g | ⟨j,x,hj,hx,hle⟩ | ⟨wi,hi,hle⟩
   · exact absurd hu.2 (by rw [g]; exact hP)
   · rw [List.getElem?_map,Option.map_eq_some_iff] at hj hx;obtain ⟨q,hq,hqe⟩ := hj;obtain ⟨q',hq',rfl⟩ := hx;obtain rfl := Option.some.inj (hq.symm.trans hq');by_cases hji : j < i
     · exact absurd (hqe ▸ hu.2) (hno j q hji hq)
     · rcases Nat.lt_or_eq_of_le (Nat.le_of_not_lt hji) with g | g
       · exact .trans (.inl (h.bf.asc i j p.w q.w g (by rw [List.getElem?_map,hp]; rfl) (by rw [List.getElem?_map,hq]; rfl))) hle
       · subst g; rw [hp] at hq; cases hq; exact hle
   · have := (List.getElem?_eq_some_iff.1 hi).1;rw [List.length_map] at this;omega
theorem PAll.none_ {a b : Au} (ha : a.Right) (hb : b.Right) {evs : List Int} {l : List Pr} (h : PAll a b evs l) {P : Int × Int → Prop} (hP : ¬ P (-1,-1)) (hno : ∀ (j : Nat) q,l[j]? = some q → ¬ P q.pr) (u : List Int) : ¬ LeadsTo (stp2 a b) (a.st,b.st) evs P u := by
 rcases h with ⟨h1,h2,rfl⟩ | h
 · rintro ⟨_,hu⟩;have hd : ∀ w : List Int,w.foldl (stp2 a b) (a.st,b.st) = (-1,-1) := snoc_ind (by show (a.st,b.st) = (-1,-1); unfold Au.st; rw [if_pos h1,if_pos h2]) (fun w e ih => by
    rw [List.foldl_append,ih];exact stp2_dead ha hb _ e rfl)
   rw [hd] at hu;exact hP hu
 · exact h.bf.none_ (fun s e hs => stp2_dead ha hb s e hs) (fun s hs => by rw [hs]; exact hP) (by simp) (fun j v hv => by
    rw [List.getElem?_map,Option.map_eq_some_iff] at hv;obtain ⟨q,hq,rfl⟩ := hv;exact hno j q hq) u
theorem PAll.mem {a b : Au} {evs : List Int} {l : List Pr} (h : PAll a b evs l) : (∀ p,p ∈ l → rgP a b p.pr) ∧ (l.map Pr.pr).Nodup := by
 rcases h with ⟨_,_,rfl⟩ | h
 · simp
 · exact ⟨fun p hp => h.rg _ (List.mem_map.2 ⟨p,hp,rfl⟩),h.nd⟩
theorem PAll.len {a b : Au} (ha : a.Right) (hb : b.Right) {evs : List Int} {l : List Pr} (h : PAll a b evs l) : l.length ≤ (a.n.toNat + 1) * (b.n.toNat + 1) := by
 rcases h with ⟨_,_,rfl⟩ | h
 · simp
 · exact h.len ha hb
theorem rn_over {a : Au} (ha : a.Right) : ∀ w : List Int,0 ≤ rn a w → ∀ e,e ∈ w → e ∈ a.al := by
 refine snoc_ind (fun _ e he => by simp at he) (fun w e ih h x hx => ?_);have h1 := rn_pre h;rcases List.mem_append.1 hx with g | g
 · exact ih h1 x g
 · rw [List.mem_singleton.1 g];rw [rn_snoc a w e h1] at h;rcases ha.next_cases (rn a w) e with k | ⟨_,_,y,hy,_,rfl,_⟩
   · omega
   · obtain ⟨j,hj,rfl⟩ := List.mem_iff_getElem.1 hy;exact (ha.ed j hj _ (List.getElem?_eq_getElem hj)).2.2.2.2.1
end
def PrR : Rep Pr := fun F w p vs => ∃ u,vs = [.int .i64 p.x,.int .i64 p.y,u] ∧ SlR IntR 1 F w p.w [u]
theorem PrR.ok : RepOk PrR := by
 have h := SlR.ok (PlR.ok encI) 1;constructor
 · rintro F w w' x vs hz hk ⟨u,e,hu⟩;exact ⟨u,e,h.keep hz hk hu⟩
 · rintro F G w x vs hk ⟨u,e,hu⟩;exact ⟨u,e,h.mono hk hu⟩
abbrev PrsAt (w : World) (A : Option Addr) (l : List Pr) : Prop := SlAt (Rd PrR) 3 w A l
theorem PrsAt.at {w : World} {A : Option Addr} {l : List Pr} (h : PrsAt w A l) {k : Nat} (hk : k < l.length) :
 ∃ (b off : Nat) (p : Pr) (A' : Option Addr) (c' : Nat),A = some ⟨b,off,none⟩ ∧ b < w.heap.size ∧ l[k]? = some p ∧ w.cell? ⟨b,off + k * 3,none⟩ = some (.int .i64 p.x) ∧ w.cell? ⟨b,off + k * 3 + 1,none⟩ = some (.int .i64 p.y) ∧ w.cell? ⟨b,off + k * 3 + 2,none⟩ = some (.slice A' p.w.length c') ∧ IntsAt w A' p.w ∧ p.w.length ≤ 140737488355328 := by
 obtain ⟨b,off,p,vs,rfl,hb,hp,hvl,⟨u,rfl,hu⟩,hc⟩ := SlAt.at h hk;obtain ⟨A',c',e⟩ := SlR.form hu;obtain rfl : u = .slice A' p.w.length c' := List.head_eq_of_cons_eq e;exact ⟨b,off,p,A',c',rfl,hb,hp,by simpa using hc 0 _ rfl,hc 1 _ rfl,hc 2 _ rfl,(SlR.at_ (PlR.ok encI) hu).2.2,(SlR.at_ (PlR.ok encI) hu).2.1⟩

theorem contains_c (A : Option Addr) (c : Nat) (l : List Int) (x : Int) (w : World) (h : IntsAt w A l) (hl : l.length ≤ 140737488355328) :
 Calls Tryd.prog 81 #[.slice A l.length c,.int .i64 x] w (Says (x ∈ l) w) := by
 go_enter Tryd.func81,Tryd.ntmps81
 go_wp2
 go_loop [5] (fun i => ∃ k : Nat,k ≤ l.length ∧ i = .int .i64 k ∧ Hid (∀ j y,j < k → l[j]? = some y → y ≠ x)) (fun i => l.length - (intOf i).toNat)
 case atStart => exact ⟨0,by omega,rfl,fun i x h => absurd h (by omega)⟩
 case round =>
  obtain ⟨k,hk,rfl,H⟩ := hrel;by_cases hlt : k < l.length
  · obtain ⟨b,off,y,rfl,_,hy,hcy⟩ := IntsAt.at h hlt;by_cases hyx : y = x
    · have HM := Lib.hid (List.mem_of_getElem? hy);have hyx' : (y == x) = true := by simpa using hyx
      have HYX := Lib.hid hyx;clear hy hyx;go_wp2
      go_ret
      exact Says.yes (HYX.out ▸ HM.out) rfl
    · have hyx' : (y == x) = false := by simpa using hyx
      have HYX := Lib.hid hyx;have HY := Lib.hid hy;clear hyx hy;go_wp2
      go_round
      case rel => exact ⟨k + 1,by omega,by go_num,fun j z hj hz => by
       by_cases e : j = k
       · subst e; rw [HY.out] at hz; cases hz; exact HYX.out
       · exact H.out j z (by omega) hz⟩
      case measure => simp [intOf]; omega
  · obtain rfl : k = l.length := by omega
    go_wp2
    go_ret
    exact Says.no (notIn_all H.out) rfl

theorem start9_c (a : Au) (p : AuP) (w : World) :
 Calls Tryd.prog 69 #[a.val p] w (Ret (.int .i64 a.st) w) := by
 obtain ⟨al,n,mr,ed⟩ := a;obtain ⟨A1,c1,A2,c2,A3,c3⟩ := p;(try dsimp only [Au.val] at *);have B0 := Lib.hid (Below.new w (.cells #[.slice A1 al.length c1,.int .i64 n,.slice A2 mr.length c2,.slice A3 ed.length c3] 35));have q1 : (w.alloc (.cells #[.slice A1 al.length c1,.int .i64 n,.slice A2 mr.length c2,.slice A3 ed.length c3] 35)).cell? ⟨w.heap.size,1,none⟩ = some (.int .i64 n) := new_cell w _ [_,_,_,_] _ 1 rfl;go_enter Tryd.func69,Tryd.ntmps69
 by_cases hn : n = 0
 · have hn' : (n == 0) = true := by simpa using hn
   have e : Hid ((⟨al,n,mr,ed⟩ : Au).st = -1) := by simp [Hid,Au.st,hn]
   clear hn;go_wp2
   go_ret
   exact ⟨ret_int e.out.symm,B0.out⟩
 · have hn' : (n == 0) = false := by simpa using hn
   have e : Hid ((⟨al,n,mr,ed⟩ : Au).st = 0) := by simp [Hid,Au.st,hn]
   clear hn;go_wp2
   go_ret
   exact ⟨ret_int e.out.symm,B0.out⟩

set_option maxHeartbeats 800000 in
theorem step9_c (a : Au) (p : AuP) (s ev : Int) (w : World) (ha : a.Right) (h3 : EdsAt w p.A3 a.ed) (l3 : a.ed.length ≤ 140737488355328) :
 Calls Tryd.prog 48 #[a.val p,.int .i64 s,.int .i64 ev] w (Ret (.int .i64 (toV (stepOf a.ed) s ev)) w) := by
 have HN := Lib.hid (ha.next s ev);have HNEG : Hid (s < 0 → nextV a.ed s ev = -1) := fun hs => by
  rcases ha.next_cases s ev with k | ⟨_,_,x,hx,rfl,_⟩
  · exact k
  · obtain ⟨j,hj,rfl⟩ := List.mem_iff_getElem.1 hx;have := (ha.ed j hj _ (List.getElem?_eq_getElem hj)).1;omega
 rw [← HN.out];clear HN ha;obtain ⟨al,n,mr,ed⟩ := a;obtain ⟨A1,c1,A2,c2,A3,c3⟩ := p;(try dsimp only [Au.val] at *);have B0 := Lib.hid (Below.new w (.cells #[.slice A1 al.length c1,.int .i64 n,.slice A2 mr.length c2,.slice A3 ed.length c3] 35));have HE := Lib.hid (h3.below EdE.stays B0.out);have q3 : (w.alloc (.cells #[.slice A1 al.length c1,.int .i64 n,.slice A2 mr.length c2,.slice A3 ed.length c3] 35)).cell? ⟨w.heap.size,3,none⟩ = some (.slice A3 ed.length c3) := new_cell w _ [_,_,_,_] _ 3 rfl;clear h3;go_enter Tryd.func48,Tryd.ntmps48
 go_wp2_with fail
 generalize hW : w.alloc (.cells #[.slice A1 al.length c1,.int .i64 n,.slice A2 mr.length c2,.slice A3 ed.length c3] 35) = W at *;clear hW;go_loop [7] (fun i => ∃ k : Nat,k ≤ ed.length ∧ i = .int .i64 k ∧ Hid (∀ j y,j < k → ed[j]? = some y → ¬ (y.src = s ∧ y.ev = ev))) (fun i => ed.length - (intOf i).toNat)
 case atStart => exact ⟨0,by omega,rfl,fun i x h => absurd h (by omega)⟩
 case round =>
  obtain ⟨k,hk,rfl,H⟩ := hrel;by_cases hlt : k < ed.length
  · by_cases h0 : 0 ≤ s
    · obtain ⟨b,off,x,rfl,_,hx,hc0,hc1,hc2⟩ := EdsAt.at HE.out hlt;obtain ⟨src,e',dst⟩ := x;dsimp only at hc0 hc1 hc2;have HX := Lib.hid hx;clear hx;by_cases h1 : src = s
      · have h1' : (src == s) = true := by simpa using h1
        have H1 := Lib.hid h1;clear h1;by_cases h2 : e' = ev
        · have h2' : (e' == ev) = true := by simpa using h2
          have H2 := Lib.hid h2;clear h2;go_wp2
          go_ret
          exact ⟨ret_int (nextV_hit H.out HX.out H1.out H2.out).symm,B0.out⟩
        · have h2' : (e' == ev) = false := by simpa using h2
          have H2 := Lib.hid h2;clear h2;go_wp2
          go_round
          case rel => exact ⟨k + 1,by omega,by go_num,fun j z hj hz => by
           by_cases e : j = k
           · subst e; rw [HX.out] at hz; cases hz; exact fun h => H2.out h.2
           · exact H.out j z (by omega) hz⟩
          case measure => simp [intOf]; omega
      · have h1' : (src == s) = false := by simpa using h1
        have H1 := Lib.hid h1;clear h1;go_wp2
        go_round
        case rel => exact ⟨k + 1,by omega,by go_num,fun j z hj hz => by
         by_cases e : j = k
         · subst e; rw [HX.out] at hz; cases hz; exact fun h => H1.out h.1
         · exact H.out j z (by omega) hz⟩
        case measure => simp [intOf]; omega
    · have HR := Lib.hid (HNEG.out (by omega));go_wp2
      go_ret
      exact ⟨ret_int HR.out.symm,B0.out⟩
  · obtain rfl : k = ed.length := by omega
    go_wp2
    go_ret
    exact ⟨ret_int (nextV_miss H.out).symm,B0.out⟩

theorem marked9_c (a : Au) (p : AuP) (s : Int) (w : World) (h2 : IntsAt w p.A2 a.mr) (l2 : a.mr.length ≤ 140737488355328) :
 Calls Tryd.prog 55 #[a.val p,.int .i64 s] w (Tells (s ∈ a.mr) w) := by
 obtain ⟨al,n,mr,ed⟩ := a;obtain ⟨A1,c1,A2,c2,A3,c3⟩ := p;(try dsimp only [Au.val] at *);have B0 := Lib.hid (Below.new w (.cells #[.slice A1 al.length c1,.int .i64 n,.slice A2 mr.length c2,.slice A3 ed.length c3] 35));have HE := Lib.hid (h2.below IntE.stays B0.out);have q2 : (w.alloc (.cells #[.slice A1 al.length c1,.int .i64 n,.slice A2 mr.length c2,.slice A3 ed.length c3] 35)).cell? ⟨w.heap.size,2,none⟩ = some (.slice A2 mr.length c2) := new_cell w _ [_,_,_,_] _ 2 rfl;clear h2;go_enter Tryd.func55,Tryd.ntmps55
 go_wp2_with fail
 refine (contains_c A2 c2 mr s _ HE.out l2).mono ?_;rintro e w' ⟨r,rfl,hr,rfl⟩;have HR := Lib.hid hr;clear hr;go_wp2_with fail
 go_ret
 exact ⟨r,rfl,HR.out,B0.out⟩

theorem has9_c (a : Au) (p : AuP) (s kind : Int) (w : World) (h2 : IntsAt w p.A2 a.mr) (l2 : a.mr.length ≤ 140737488355328) :
 Calls Tryd.prog 44 #[a.val p,.int .i64 s,.int .i64 kind] w (Ret (.bool (inV a s kind)) w) := by
 obtain ⟨b,hb⟩ : ∃ b,inV a s kind = b := ⟨_,rfl⟩;rw [hb];have HI := Lib.hid hb;clear hb;unfold inV at HI
 obtain ⟨al,n,mr,ed⟩ := a;obtain ⟨A1,c1,A2,c2,A3,c3⟩ := p;(try dsimp only [Au.val] at *);have B0 := Lib.hid (Below.new w (.cells #[.slice A1 al.length c1,.int .i64 n,.slice A2 mr.length c2,.slice A3 ed.length c3] 35));have HE := Lib.hid (h2.below IntE.stays B0.out);have a0 : (w.alloc (.cells #[.slice A1 al.length c1,.int .i64 n,.slice A2 mr.length c2,.slice A3 ed.length c3] 35)).cell? ⟨w.heap.size,0,none⟩ = some (.slice A1 al.length c1) := new_cell w _ [_,_,_,_] _ 0 rfl;have a1 : (w.alloc (.cells #[.slice A1 al.length c1,.int .i64 n,.slice A2 mr.length c2,.slice A3 ed.length c3] 35)).cell? ⟨w.heap.size,1,none⟩ = some (.int .i64 n) := new_cell w _ [_,_,_,_] _ 1 rfl;have a2 : (w.alloc (.cells #[.slice A1 al.length c1,.int .i64 n,.slice A2 mr.length c2,.slice A3 ed.length c3] 35)).cell? ⟨w.heap.size,2,none⟩ = some (.slice A2 mr.length c2) := new_cell w _ [_,_,_,_] _ 2 rfl;have a3 : (w.alloc (.cells #[.slice A1 al.length c1,.int .i64 n,.slice A2 mr.length c2,.slice A3 ed.length c3] 35)).cell? ⟨w.heap.size,3,none⟩ = some (.slice A3 ed.length c3) := new_cell w _ [_,_,_,_] _ 3 rfl;clear h2;go_enter Tryd.func44,Tryd.ntmps44
 by_cases h0 : 0 ≤ s
 · by_cases hk : kind = 1
   · have hk' : (kind == 1) = true := by simpa using hk
     obtain rfl : b = true := by have := HI.out; simp [h0,hk] at this; exact this
     clear HI hk;go_wp2_with fail
     go_ret
     exact ⟨rfl,B0.out⟩
   · have hk' : (kind == 1) = false := by simpa using hk
     have HB : Hid (b = true ↔ s ∈ mr) := by have := HI.out; simp [h0,hk] at this; rw [Hid,← this]; simp
     clear HI hk;go_wp2_with fail
     refine (marked9_c ⟨al,n,mr,ed⟩ ⟨A1,c1,A2,c2,A3,c3⟩ s _ HE.out l2).mono ?_;rintro e w' ⟨r,rfl,hr,hb⟩;have HR := Lib.hid (B0.out.trans (hb.mono B0.out.size));obtain rfl : r = b := Bool.eq_iff_iff.2 (hr.trans HB.out.symm);clear hr hb HB;go_wp2_with fail
     go_ret
     exact ⟨rfl,HR.out⟩
 · obtain rfl : b = false := by have := HI.out; simp [h0] at this; exact this
   clear HI;go_wp2_with fail
   go_ret
   exact ⟨rfl,B0.out⟩

def FindP (l : List Pr) (q : Int × Int) (r : Int) : Prop := (r = -1 ∧ ¬ q ∈ l.map Pr.pr) ∨ ∃ i : Nat,r = (i : Int) ∧ (l.map Pr.pr)[i]? = some q
def GivesFind (l : List Pr) (q : Int × Int) (w : World) (e : Ending) (w' : World) : Prop := ∃ r : Int,e = .returned (.int .i64 r) ∧ Hid (FindP l q r) ∧ w = w'
set_option maxHeartbeats 800000 in
theorem find9_c (A : Option Addr) (c : Nat) (l : List Pr) (x y : Int) (w : World) (h : PrsAt w A l) (hl : l.length ≤ 140737488355328) :
 Calls Tryd.prog 47 #[.slice A l.length c,.int .i64 x,.int .i64 y] w (GivesFind l (x,y) w) := by
 go_enter Tryd.func47,Tryd.ntmps47
 go_wp2
 go_loop [7] (fun i => ∃ k : Nat,k ≤ l.length ∧ i = .int .i64 k ∧ Hid (∀ j p,j < k → l[j]? = some p → p.pr ≠ (x,y))) (fun i => l.length - (intOf i).toNat)
 case atStart => exact ⟨0,by omega,rfl,fun i x h => absurd h (by omega)⟩
 case round =>
  obtain ⟨k,hk,rfl,H⟩ := hrel;by_cases hlt : k < l.length
  · obtain ⟨b,off,p,A',c',rfl,_,hp,hx,hy,_,_,_⟩ := PrsAt.at h hlt;have HP := Lib.hid hp;clear hp;by_cases h1 : p.x = x
    · have h1' : (p.x == x) = true := by simpa using h1
      have H1 := Lib.hid h1;clear h1;by_cases h2 : p.y = y
      · have h2' : (p.y == y) = true := by simpa using h2
        have H2 := Lib.hid h2;clear h2;go_wp2
        go_ret
        exact ⟨_,rfl,.inr ⟨k,rfl,by rw [List.getElem?_map,HP.out,← H1.out,← H2.out]; rfl⟩,rfl⟩
      · have h2' : (p.y == y) = false := by simpa using h2
        have H2 := Lib.hid h2;clear h2;go_wp2
        go_round
        case rel => exact ⟨k + 1,by omega,by go_num,fun j z hj hz => by
         by_cases e : j = k
         · subst e; rw [HP.out] at hz; cases hz; exact fun h => H2.out (Prod.mk.inj h).2
         · exact H.out j z (by omega) hz⟩
        case measure => simp [intOf]; omega
    · have h1' : (p.x == x) = false := by simpa using h1
      have H1 := Lib.hid h1;clear h1;go_wp2
      go_round
      case rel => exact ⟨k + 1,by omega,by go_num,fun j z hj hz => by
       by_cases e : j = k
       · subst e; rw [HP.out] at hz; cases hz; exact fun h => H1.out (Prod.mk.inj h).1
       · exact H.out j z (by omega) hz⟩
      case measure => simp [intOf]; omega
  · obtain rfl : k = l.length := by omega
    go_wp2
    go_ret
    exact ⟨_,rfl,.inl ⟨rfl,fun hm => by
     obtain ⟨p,hp,he⟩ := List.mem_map.1 hm;obtain ⟨j,hj,hjp⟩ := List.mem_iff_getElem.1 hp;exact H.out j p hj (by rw [List.getElem?_eq_getElem hj,hjp]) he⟩,rfl⟩
theorem union_drop1 {a b : List Int} {i j : Nat} {x : Int} (hx : a[i]? = some x) (h : b.length ≤ j) : unionV (a.drop i) (b.drop j) = x :: unionV (a.drop (i + 1)) (b.drop j) := by
 obtain ⟨h1,h2⟩ := List.getElem?_eq_some_iff.1 hx;rw [List.drop_eq_getElem_cons h1,h2,List.drop_eq_nil_of_le h];unfold unionV; rw [mergeV]; rfl
theorem union_lt {a b : List Int} {i j : Nat} {x y : Int} (hx : a[i]? = some x) (hy : b[j]? = some y) (h : x < y) : unionV (a.drop i) (b.drop j) = x :: unionV (a.drop (i + 1)) (b.drop j) := by
 obtain ⟨h1,h2⟩ := List.getElem?_eq_some_iff.1 hx;obtain ⟨h3,h4⟩ := List.getElem?_eq_some_iff.1 hy;rw [List.drop_eq_getElem_cons h1,h2,List.drop_eq_getElem_cons h3,h4];unfold unionV; rw [mergeV,if_pos h]; rfl
theorem union_eq {a b : List Int} {i j : Nat} {x : Int} (hx : a[i]? = some x) (hy : b[j]? = some x) : unionV (a.drop i) (b.drop j) = x :: unionV (a.drop (i + 1)) (b.drop (j + 1)) := by
 obtain ⟨h1,h2⟩ := List.getElem?_eq_some_iff.1 hx;obtain ⟨h3,h4⟩ := List.getElem?_eq_some_iff.1 hy;rw [List.drop_eq_getElem_cons h1,h2,List.drop_eq_getElem_cons h3,h4];unfold unionV; rw [mergeV,if_neg (by omega),if_neg (by omega)]; rfl
theorem union_gt {a b : List Int} {i j : Nat} {y : Int} (hy : b[j]? = some y) (h : a.length ≤ i ∨ ∃ x,a[i]? = some x ∧ y < x) : unionV (a.drop i) (b.drop j) = y :: unionV (a.drop i) (b.drop (j + 1)) := by
 obtain ⟨h3,h4⟩ := List.getElem?_eq_some_iff.1 hy;rw [List.drop_eq_getElem_cons h3,h4];rcases h with h | ⟨x,hx,h⟩
 · rw [List.drop_eq_nil_of_le h];unfold unionV; rw [mergeV]; rfl
 · obtain ⟨h1,h2⟩ := List.getElem?_eq_some_iff.1 hx;rw [List.drop_eq_getElem_cons h1,h2];unfold unionV; rw [mergeV,if_neg (by omega),if_pos h]; rfl
theorem Own.dN {α : Type} {enc : α → List Value} {k T B : Nat} {l : List α} {v : Value} {w : World} (h : Own enc k T B l v w) (q : Nat) : Own enc k T B l v (w.drewN q) := h.below ((Below.refl w.heap.size w).draws q) (Nat.le_refl _)
set_option maxHeartbeats 4000000 in
theorem u01_c (A B : Option Addr) (cA cB : Nat) (a b : List Int) (w : World) (hA : IntsAt w A a) (hB : IntsAt w B b) (la : a.length + b.length ≤ 100000) :
 Calls Tryd.prog 46 #[.slice A a.length cA,.slice B b.length cB] w (GivesMg (unionV a b) w) := by
 have HA := Lib.hid hA;have HB := Lib.hid hB;clear hA hB;go_enter Tryd.func46,Tryd.ntmps46
 go_wp2_with fail
 go_loopw [5,6,7] (fun v x y wr => ∃ (i j : Nat) (l : List Int),i ≤ a.length ∧ j ≤ b.length ∧ x = .int .i64 ↑i ∧ y = .int .i64 ↑j ∧ l.length ≤ i + j ∧ Hid (l ++ unionV (a.drop i) (b.drop j) = unionV a b) ∧ Hid (OwnI w.heap.size l v wr) ∧ Hid (Fro w.heap.size w wr)) (fun _ x y _ => a.length + b.length - (intOf x).toNat - (intOf y).toNat)
 case atStart => exact ⟨0,0,[],by omega,by omega,rfl,rfl,by simp,by simp [Hid],Own.nil _,Fro.here w⟩
 case round =>
  obtain ⟨i,j,l,hi,hj,rfl,rfl,hl,HU,HV,BW⟩ := hrel;have hll : l.length ≤ 1048576 := by omega
  by_cases hja : j < b.length
  · obtain ⟨bb,ob,y,rfl,hbb,hy,cy⟩ := IntsAt.at (HB.out.below IntE.stays BW.out.b) hja;have HY := Lib.hid hy;clear hy;have ej : ((j : Int) == (b.length : Int)) = false := by rw [beq_eq_false_iff_ne]; omega
    by_cases hia : i < a.length
    · obtain ⟨ba,oa,x,rfl,hba,hx,cx⟩ := IntsAt.at (HA.out.below IntE.stays BW.out.b) hia;have HX := Lib.hid hx;clear hx;by_cases hxy : x ≤ y
      · have exy : decide (x ≤ y) = true := by simpa using hxy
        by_cases he : x = y
        · have hq : (x == y) = true := by simpa using he
          have HE := Lib.hid he;clear he hxy;go_wp2_with fail
          go_quiet (fail)
          go_wp2_with fail
          go_quiet (fail)
          go_wp2_with (at_builtin; refine wpList_push rfl _ _ 32 rfl ((HV.out.dN _).alloc _) Tryd.underlying32 _ 8 intInfo rfl (by decide) rfl x _ rfl rfl (one_cell _ _ _ _ rfl) (encI_one _) hll (by decide) ((BW.out.draws _).alloc _).z ?_)
          intro A' c' w1 ho hg _;have HN := Lib.hid ho;have HG := Lib.hid (((BW.out.draws _).alloc _).push ((HV.out.dN _).alloc _) hg);have HU2 : Hid ((l ++ [x]) ++ unionV (a.drop (i + 1)) (b.drop (j + 1)) = unionV a b) := by rw [Hid,← HU.out,union_eq HX.out (HE.out ▸ HY.out)]; simp
          clear ho hg HU;go_wp2_with fail
          go_roundw
          case rel => exact ⟨i + 1,j + 1,l ++ [x],by omega,by omega,by go_num,by go_num,by simp; omega,HU2.out,HN.out,HG.out⟩
          case measure => simp [intOf]; omega
        · have hq : (x == y) = false := by simpa using he
          have HE := Lib.hid (show x < y by omega);clear he hxy;go_wp2_with fail
          go_quiet (fail)
          go_wp2_with fail
          go_quiet (fail)
          go_wp2_with (at_builtin; refine wpList_push rfl _ _ 32 rfl ((HV.out.dN _).alloc _) Tryd.underlying32 _ 8 intInfo rfl (by decide) rfl x _ rfl rfl (one_cell _ _ _ _ rfl) (encI_one _) hll (by decide) ((BW.out.draws _).alloc _).z ?_)
          intro A' c' w1 ho hg _;have HN := Lib.hid ho;have HG := Lib.hid (((BW.out.draws _).alloc _).push ((HV.out.dN _).alloc _) hg);have HU2 : Hid ((l ++ [x]) ++ unionV (a.drop (i + 1)) (b.drop (j)) = unionV a b) := by rw [Hid,← HU.out,union_lt HX.out HY.out HE.out]; simp
          clear ho hg HU;go_wp2_with fail
          go_roundw
          case rel => exact ⟨i + 1,j,l ++ [x],by omega,by omega,by go_num,by go_num,by simp; omega,HU2.out,HN.out,HG.out⟩
          case measure => simp [intOf]; omega
      · have exy : decide (x ≤ y) = false := by simpa using hxy
        have HE := Lib.hid (show y < x by omega);clear hxy;go_wp2_with fail
        go_quiet (fail)
        go_wp2_with (at_builtin; refine wpList_push rfl _ _ 32 rfl ((HV.out.dN _).alloc _) Tryd.underlying32 _ 8 intInfo rfl (by decide) rfl y _ rfl rfl (one_cell _ _ _ _ rfl) (encI_one _) hll (by decide) ((BW.out.draws _).alloc _).z ?_)
        intro A' c' w1 ho hg _;have HN := Lib.hid ho;have HG := Lib.hid (((BW.out.draws _).alloc _).push ((HV.out.dN _).alloc _) hg);have HU2 : Hid ((l ++ [y]) ++ unionV (a.drop (i)) (b.drop (j + 1)) = unionV a b) := by rw [Hid,← HU.out,union_gt HY.out (.inr ⟨x,HX.out,HE.out⟩)]; simp
        clear ho hg HU;go_wp2_with fail
        go_roundw
        case rel => exact ⟨i,j + 1,l ++ [y],by omega,by omega,by go_num,by go_num,by simp; omega,HU2.out,HN.out,HG.out⟩
        case measure => simp [intOf]; omega
    · obtain rfl : i = a.length := by omega
      go_wp2_with fail
      go_quiet (fail)
      go_wp2_with (at_builtin; refine wpList_push rfl _ _ 32 rfl ((HV.out.dN _).alloc _) Tryd.underlying32 _ 8 intInfo rfl (by decide) rfl y _ rfl rfl (one_cell _ _ _ _ rfl) (encI_one _) hll (by decide) ((BW.out.draws _).alloc _).z ?_)
      intro A' c' w1 ho hg _;have HN := Lib.hid ho;have HG := Lib.hid (((BW.out.draws _).alloc _).push ((HV.out.dN _).alloc _) hg);have HU2 : Hid ((l ++ [y]) ++ unionV (a.drop (a.length)) (b.drop (j + 1)) = unionV a b) := by rw [Hid,← HU.out,union_gt HY.out (.inl (Nat.le_refl _))]; simp
      clear ho hg HU;go_wp2_with fail
      go_roundw
      case rel => exact ⟨a.length,j + 1,l ++ [y],by omega,by omega,by go_num,by go_num,by simp; omega,HU2.out,HN.out,HG.out⟩
      case measure => simp [intOf]; omega
  · obtain rfl : j = b.length := by omega
    by_cases hia : i < a.length
    · obtain ⟨ba,oa,x,rfl,hba,hx,cx⟩ := IntsAt.at (HA.out.below IntE.stays BW.out.b) hia;have HX := Lib.hid hx;clear hx;go_wp2_with fail
      go_quiet (fail)
      go_wp2_with fail
      go_quiet (fail)
      go_wp2_with (at_builtin; refine wpList_push rfl _ _ 32 rfl ((HV.out.dN _).alloc _) Tryd.underlying32 _ 8 intInfo rfl (by decide) rfl x _ rfl rfl (one_cell _ _ _ _ rfl) (encI_one _) hll (by decide) ((BW.out.draws _).alloc _).z ?_)
      intro A' c' w1 ho hg _;have HN := Lib.hid ho;have HG := Lib.hid (((BW.out.draws _).alloc _).push ((HV.out.dN _).alloc _) hg);have HU2 : Hid ((l ++ [x]) ++ unionV (a.drop (i + 1)) (b.drop (b.length)) = unionV a b) := by rw [Hid,← HU.out,union_drop1 HX.out (Nat.le_refl _)]; simp
      clear ho hg HU;go_wp2_with fail
      go_roundw
      case rel => exact ⟨i + 1,b.length,l ++ [x],by omega,by omega,by go_num,by go_num,by simp; omega,HU2.out,HN.out,HG.out⟩
      case measure => simp [intOf]; omega
    · obtain rfl : i = a.length := by omega
      have HZ : Hid (l = unionV a b) := by rw [Hid,← HU.out,List.drop_length,List.drop_length]; simp [unionV,mergeV]
      obtain ⟨A',c',rfl⟩ := Own.form HV.out;go_wp2_with fail
      go_ret
      have h := HZ.out;subst h;exact ⟨A',c',rfl,HV.out,BW.out.b⟩
structure Gr where
 s : Int
 m : Int
 r0 : B5
 r1 : B5
 r2 : B5
 r3 : B5
 r4 : B5
abbrev Gr.cells (g : Gr) : List Value := [.int .u8 g.s,.int .u8 g.m,.int .u8 g.r0.x0,.int .u8 g.r0.x1,.int .u8 g.r0.x2,.int .u8 g.r0.x3,.int .u8 g.r0.x4,.int .u8 g.r1.x0,.int .u8 g.r1.x1,.int .u8 g.r1.x2,.int .u8 g.r1.x3,.int .u8 g.r1.x4,.int .u8 g.r2.x0,.int .u8 g.r2.x1,.int .u8 g.r2.x2,.int .u8 g.r2.x3,.int .u8 g.r2.x4,.int .u8 g.r3.x0,.int .u8 g.r3.x1,.int .u8 g.r3.x2,.int .u8 g.r3.x3,.int .u8 g.r3.x4,.int .u8 g.r4.x0,.int .u8 g.r4.x1,.int .u8 g.r4.x2,.int .u8 g.r4.x3,.int .u8 g.r4.x4]
abbrev Gr.val (g : Gr) : Value := .agg g.cells.toArray
structure Gr.Ok (g : Gr) : Prop where
 s : 0 ≤ g.s ∧ g.s < 256
 m : 0 ≤ g.m ∧ g.m < 256
 r0 : g.r0.Ok
 r1 : g.r1.Ok
 r2 : g.r2.Ok
 r3 : g.r3.Ok
 r4 : g.r4.Ok
theorem Gr.get {g : Gr} (h : g.Ok) {i k : Nat} (hi : i < 5) (hk : k < 5) : ∃ x,g.cells[2 + i * 5 + k]? = some (.int .u8 x) ∧ 0 ≤ x ∧ x < 256 := by
 match i,hi with
 | 0,_ => obtain ⟨x,h1,h2⟩ := B5.get h.r0 hk; exact ⟨x,by match k,hk with | 0,_ => exact h1 | 1,_ => exact h1 | 2,_ => exact h1 | 3,_ => exact h1 | 4,_ => exact h1,h2⟩
 | 1,_ => obtain ⟨x,h1,h2⟩ := B5.get h.r1 hk; exact ⟨x,by match k,hk with | 0,_ => exact h1 | 1,_ => exact h1 | 2,_ => exact h1 | 3,_ => exact h1 | 4,_ => exact h1,h2⟩
 | 2,_ => obtain ⟨x,h1,h2⟩ := B5.get h.r2 hk; exact ⟨x,by match k,hk with | 0,_ => exact h1 | 1,_ => exact h1 | 2,_ => exact h1 | 3,_ => exact h1 | 4,_ => exact h1,h2⟩
 | 3,_ => obtain ⟨x,h1,h2⟩ := B5.get h.r3 hk; exact ⟨x,by match k,hk with | 0,_ => exact h1 | 1,_ => exact h1 | 2,_ => exact h1 | 3,_ => exact h1 | 4,_ => exact h1,h2⟩
 | 4,_ => obtain ⟨x,h1,h2⟩ := B5.get h.r4 hk; exact ⟨x,by match k,hk with | 0,_ => exact h1 | 1,_ => exact h1 | 2,_ => exact h1 | 3,_ => exact h1 | 4,_ => exact h1,h2⟩

theorem Own.none {α : Type} {enc : α → List Value} {k T B : Nat} {l : List α} {A : Option Addr} {c : Nat} {w : World} (h : Own enc k T B l (.slice A l.length c) w) (hA : A = Option.none) : l = [] ∧ c = 0 := by
 subst hA;rcases h.2 with ⟨h1,h2⟩ | ⟨g,cap,cur,h1,_⟩
 · cases l with
   | nil => cases h1; exact ⟨rfl,rfl⟩
   | cons a l => simp at h2
 · cases h1
def GivesG3 (al : List Int) (w : World) (e : Ending) (w' : World) : Prop := ∃ (au : Au) (p : AuP),e = .returned (au.val p) ∧ au.Right ∧ au.al = al ∧ au.n ≤ 5 ∧ au.ed.length ≤ 25 ∧ au.mr.length ≤ 5 ∧ Hid (AuOwn w.heap.size au p w') ∧ Below w.heap.size w w'
def bitS (s : Int) (k : Nat) : Bool := (bits BinOp.and IntKind.u8 (s / 2 ^ k) 1 == 1)
def evV (s : Int) : Nat → List Int
 | 0 => []
 | k + 1 => if bitS s k then evV s k ++ [(k : Int)] else evV s k
theorem evV_lt5 (s : Int) : ∀ k,Lt5 (evV s k) k
 | 0 => ⟨fun i j x y _ hx => by simp [evV] at hx,by simp [evV],by simp [evV]⟩
 | k + 1 => by
   unfold evV
   split
   · exact (evV_lt5 s k).more
   · exact (evV_lt5 s k).skip
theorem evV_yes {s : Int} {k : Nat} (h : bitS s k = true) : evV s (k + 1) = evV s k ++ [(k : Int)] := by rw [evV,if_pos h]
theorem evV_no {s : Int} {k : Nat} (h : bitS s k = false) : evV s (k + 1) = evV s k := by rw [evV,if_neg (by simp [h])]
def GivesEv (s : Int) (w : World) (e : Ending) (w' : World) : Prop := ∃ v,e = .returned v ∧ Hid (OwnI w.heap.size (evV s 5) v w') ∧ Below w.heap.size w w'
set_option maxRecDepth 100000 in
set_option maxHeartbeats 1000000 in
theorem events_c (s : Int) (w : World) (h0 : 0 ≤ s) (h1 : s < 256) :
 Calls Tryd.prog 21 #[.int .u8 s] w (GivesEv s w) := by
 go_enter Tryd.func21,Tryd.ntmps21
 go_wp2_with fail
 go_loopw [3,4] (fun v i wr => ∃ (k : Nat),k ≤ 5 ∧ i = .int .i64 k ∧ Hid (OwnI w.heap.size (evV s k) v wr) ∧ Hid (Fro w.heap.size w wr)) (fun _ i _ => 5 - (intOf i).toNat)
 case atStart => exact ⟨0,by omega,rfl,Own.nil _,Fro.here w⟩
 case round =>
  obtain ⟨k,hk,rfl,HV,BW⟩ := hrel;by_cases hlt : k < 5
  · have hll := (evV_lt5 s k).len;obtain ⟨b,hb⟩ : ∃ b,bitS s k = b := ⟨_,rfl⟩;have hb' : (bits BinOp.and IntKind.u8 (s / 2 ^ k) 1 == 1) = b := hb;have HB := Lib.hid hb;clear hb;cases b
    · go_wp2
      go_roundw
      case rel => exact ⟨k + 1,by omega,by go_num,by rw [evV_no HB.out]; exact HV.out,BW.out⟩
      case measure => simp [intOf]; omega
    · go_wp2_with (at_builtin; refine wpList_push rfl _ _ 32 rfl (HV.out.alloc _) Tryd.underlying32 _ 8 intInfo rfl (by decide) rfl (k : Int) wr.heap.size rfl rfl (one_cell _ _ _ _ rfl) (encI_one _) (by omega) (by decide) (BW.out.alloc _).z ?_)
      intro A' c' w1 ho hg _;have HN := Lib.hid ho;have HG := Lib.hid ((BW.out.alloc _).push (HV.out.alloc _) hg);clear ho hg;go_wp2
      go_roundw
      case rel => exact ⟨k + 1,by omega,by go_num,by rw [evV_yes HB.out]; exact HN.out,HG.out⟩
      case measure => simp [intOf]; omega
  · obtain rfl : k = 5 := by omega
    go_wp2
    go_ret
    exact ⟨_,rfl,HV.out,BW.out.b⟩
theorem AuOwn.sep {W w' : World} {a : Au} {p : AuP} (h : AuOwn W.heap.size a p w') (hb : Below W.heap.size W w') : Sep W.heap.size W (eAu a p) w' := by
 refine ⟨⟨hb,hb.size⟩,?_,?_,?_⟩
 · intro e he;simp only [eAu,List.mem_cons,List.not_mem_nil,or_false] at he;rcases he with rfl | rfl | rfl
   · exact Own.base h.al (Nat.zero_le _)
   · exact Own.base h.mr (Nat.zero_le _)
   · exact Own.base h.ed (Nat.zero_le _)
 · intro e he;simp only [eAu,List.mem_cons,List.not_mem_nil,or_false] at he;rcases he with rfl | rfl | rfl
   · exact fun g hg => (Own.lt h.al g (by simpa [eOwn] using hg)).1
   · exact fun g hg => (Own.lt h.mr g (by simpa [eOwn] using hg)).1
   · exact fun g hg => (Own.lt h.ed g (by simpa [eOwn] using hg)).1
 · have f : ∀ {α : Type} {enc : α → List Value} {k T : Nat} {l : List α} {v : Value} {g : Nat},g ∈ (eOwn enc k T l v).foot → v.ownBlock = some g := fun hg => by simpa [eOwn] using hg
   simp only [eAu,List.pairwise_cons,List.mem_cons,List.not_mem_nil,or_false,false_implies,implies_true,List.Pairwise.nil,and_true,forall_eq_or_imp,forall_eq];exact ⟨⟨fun g h1 h2 => h.d1 g (f h1) (f h2),fun g h1 h2 => h.d2 g (f h1) (f h2)⟩,fun g h1 h2 => h.d3 g (f h1) (f h2)⟩
structure Gd (s : Int) (a : Au) : Prop where
 rt : a.Right
 al : a.al = evV s 5
 n : a.n ≤ 5
 ed : a.ed.length ≤ 25
 mr : a.mr.length ≤ 5
theorem Gd.lens {s : Int} {a : Au} (h : Gd s a) : Lens a := ⟨by have := (evV_lt5 s 5).len; rw [h.al]; omega,by have := h.mr; omega,by have := h.ed; omega⟩
def GivesTwo (s0 s1 : Int) (w : World) (e : Ending) (w' : World) : Prop := ∃ a p b q,e = .returned (.tuple #[a.val p,b.val q]) ∧ (SepW w (eAu a p ++ eAu b q) w') ∧ Hid (Gd s0 a) ∧ Hid (Gd s1 b)
def twoCells (s0 s1 : Int) (g0 g1 : Gr) : List Value := [.int .u8 s0,.int .u8 s1] ++ g0.cells ++ g1.cells
theorem two2 (s0 s1 : Int) (g0 g1 : Gr) : ∀ (j : Nat) v,g0.cells[j]? = some v → (twoCells s0 s1 g0 g1)[2 + j]? = some v := fun j v hv => by
 have hj : j < g0.cells.length := (List.getElem?_eq_some_iff.1 hv).1;unfold twoCells
 rw [List.append_assoc,List.getElem?_append_right (by simp),show 2 + j - [Value.int .u8 s0,.int .u8 s1].length = j by simp,List.getElem?_append_left hj];exact hv
theorem two29 (s0 s1 : Int) (g0 g1 : Gr) : ∀ (j : Nat) v,g1.cells[j]? = some v → (twoCells s0 s1 g0 g1)[29 + j]? = some v := fun j v hv => by
 unfold twoCells
 rw [List.getElem?_append_right (by simp),show 29 + j - ([Value.int .u8 s0,.int .u8 s1] ++ g0.cells).length = j by simp];exact hv
theorem BlkAt.rng {b o T : Nat} {l cs : List Value} {w : World} (h : BlkAt w b T l) (hs : ∀ (j : Nat) v,cs[j]? = some v → l[o + j]? = some v) : w.rangeAt b o cs := fun j v hv => (h.cell (o + j)).trans (hs j v hv)
def Ent.and (e f : Ent) : Ent where
 foot := e.foot ++ f.foot
 ok w := e.ok w ∧ f.ok w
 lt w h g hg := (List.mem_append.1 hg).elim (e.lt w h.1 g) (f.lt w h.2 g)
 turn w w' h hg := ⟨e.turn w w' h.1 fun g k => hg g (List.mem_append_left _ k),f.turn w w' h.2 fun g k => hg g (List.mem_append_right _ k)⟩
theorem Sep.join {n : Nat} {w0 w : World} {e f : Ent} {es : List Ent} (S : Sep n w0 (e :: f :: es) w) : Sep n w0 (e.and f :: es) w := by
 have ap := S.ap;rw [List.pairwise_cons,List.pairwise_cons] at ap;refine ⟨S.fro,fun x hx => ?_,fun x hx => ?_,List.pairwise_cons.2 ⟨fun x hx g hg => ?_,ap.2.2⟩⟩
 · rcases List.mem_cons.1 hx with rfl | hx
   · exact ⟨S.ok e (by simp),S.ok f (by simp)⟩
   · exact S.ok x (by simp [hx])
 · rcases List.mem_cons.1 hx with rfl | hx
   · exact fun g hg => (List.mem_append.1 hg).elim (S.ge e (by simp) g) (S.ge f (by simp) g)
   · exact S.ge x (by simp [hx])
 · rcases List.mem_append.1 hg with h | h
   · exact ap.1 x (by simp [hx]) g h
   · exact ap.2.1 x hx g h
def eBox (t : Nat) (a : Au) (p : AuP) : Ent := (eBlk t 35 [.slice p.A1 a.al.length p.c1,.int .i64 a.n,.slice p.A2 a.mr.length p.c2,.slice p.A3 a.ed.length p.c3]).and ((eInts a.al (.slice p.A1 a.al.length p.c1)).and ((eInts a.mr (.slice p.A2 a.mr.length p.c2)).and (eEds a.ed (.slice p.A3 a.ed.length p.c3))))
theorem Sep.box {n : Nat} {w0 w : World} {t : Nat} {a : Au} {p : AuP} {es : List Ent} (S : Sep n w0 (eBlk t 35 [.slice p.A1 a.al.length p.c1,.int .i64 a.n,.slice p.A2 a.mr.length p.c2,.slice p.A3 a.ed.length p.c3] :: eInts a.al (.slice p.A1 a.al.length p.c1) :: eInts a.mr (.slice p.A2 a.mr.length p.c2) :: eEds a.ed (.slice p.A3 a.ed.length p.c3) :: es) w) : Sep n w0 (eBox t a p :: es) w := by
 have ap := S.ap;simp only [List.pairwise_cons] at ap;refine ⟨S.fro,fun x hx => ?_,fun x hx => ?_,List.pairwise_cons.2 ⟨fun x hx g hg => ?_,ap.2.2.2.2⟩⟩
 · rcases List.mem_cons.1 hx with rfl | hx
   · exact ⟨S.ok _ (by simp),S.ok _ (by simp),S.ok _ (by simp),S.ok _ (by simp)⟩
   · exact S.ok x (by simp [hx])
 · rcases List.mem_cons.1 hx with rfl | hx
   · intro g hg;rcases List.mem_append.1 hg with h | h
     · exact S.ge _ (by simp) g h
     rcases List.mem_append.1 h with h | h
     · exact S.ge (eInts a.al (.slice p.A1 a.al.length p.c1)) (by simp) g h
     rcases List.mem_append.1 h with h | h
     · exact S.ge (eInts a.mr (.slice p.A2 a.mr.length p.c2)) (by simp) g h
     · exact S.ge (eEds a.ed (.slice p.A3 a.ed.length p.c3)) (by simp) g h
   · exact S.ge x (by simp [hx])
 · rcases List.mem_append.1 hg with h | h
   · exact ap.1 x (by simp [hx]) g h
   rcases List.mem_append.1 h with h | h
   · exact ap.2.1 x (by simp [hx]) g h
   rcases List.mem_append.1 h with h | h
   · exact ap.2.2.1 x (by simp [hx]) g h
   · exact ap.2.2.2.1 x hx g h
theorem eBox.at {t : Nat} {a : Au} {p : AuP} {w : World} (h : (eBox t a p).ok w) (hl : Lens a) : Au.At w a p :=
 ⟨OwnI.ints h.2.1,OwnI.ints h.2.2.1,Own.reads (enc := Ed.cells) (k := 3) (T := 87) (B := 0) (fun _ => rfl) h.2.2.2,hl.1,hl.2.1,hl.2.2⟩
end Go.Proofs.YtkifgffhoenaoaaDoor
