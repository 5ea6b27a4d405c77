/-
  Plain: where the edges of a state begin; the states from which others are reached.
  minimal.distinguish of right automata.
-/
import Derived.Test.YtjjifefanjnghaaBas01
import Derived.Test.YtjjifefanjnghaaBas06
import Derived.Test.YtjjifefanjnghaaBas03
import Derived.Test.YtjjifefanjnghaaBas07
import Derived.Deep.RegionLaw
import Derived.BigQuiet
set_option linter.unusedSimpArgs false
set_option linter.unusedVariables false
namespace Go.Proofs.Ytjjifefanjnghaa
open Go.RowKit
set_option maxRecDepth 100000
section

def cntS (l : List Ed) (j : Nat) : Nat := (l.filter fun x => decide (x.src + 1 = (j : Int))).length
def fstV (l : List Ed) (j : Nat) : Nat := (l.filter fun x => decide (x.src < (j : Int))).length
theorem cntS_le (l : List Ed) (j : Nat) : cntS l j ≤ l.length := List.length_filter_le _ _
theorem fstV_le (l : List Ed) (j : Nat) : fstV l j ≤ l.length := List.length_filter_le _ _
theorem cntS_snoc (l : List Ed) (x : Ed) (j : Nat) : cntS (l ++ [x]) j = if x.src + 1 = (j : Int) then cntS l j + 1 else cntS l j := by
 unfold cntS
 rw [List.filter_append,List.length_append]
 by_cases h : x.src + 1 = (j : Int) <;> simp [h]
theorem fstV_succ : ∀ (l : List Ed) (j : Nat),fstV l (j + 1) = fstV l j + cntS l (j + 1)
 | [],j => rfl
 | x :: l,j => by
   have ih := fstV_succ l j
   unfold fstV cntS at *
   simp only [List.filter_cons]
   by_cases h1 : x.src < (j : Int)
   · have h2 : x.src < ((j + 1 : Nat) : Int) := by omega
     have h3 : ¬ x.src + 1 = ((j + 1 : Nat) : Int) := by omega
     simp only [h1,h2,h3,decide_true,decide_false,if_true,List.length_cons]
     simp only [Bool.false_eq_true,if_false]
     omega
   · by_cases h2 : x.src < ((j + 1 : Nat) : Int)
     · have h3 : x.src + 1 = ((j + 1 : Nat) : Int) := by omega
       simp only [h1,h2,h3,decide_true,decide_false,if_true,List.length_cons]
       simp only [Bool.false_eq_true,if_false]
       omega
     · have h3 : ¬ x.src + 1 = ((j + 1 : Nat) : Int) := by omega
       simp only [h1,h2,h3,decide_true,decide_false]
       simp only [Bool.false_eq_true,if_false]
       omega
theorem fstV_zero {l : List Ed} (h : ∀ x,x ∈ l → 0 ≤ x.src) : fstV l 0 = 0 := by
 unfold fstV
 rw [List.filter_eq_nil_iff.2 (fun x hx => by have := h x hx; simp; omega)]; rfl
theorem cntS_zero {l : List Ed} (h : ∀ x,x ∈ l → 0 ≤ x.src) : cntS l 0 = 0 := by
 unfold cntS
 rw [List.filter_eq_nil_iff.2 (fun x hx => by have := h x hx; simp; omega)]; rfl
def SrcUp (l : List Ed) : Prop := l.Pairwise fun x y => x.src ≤ y.src
theorem SrcUp.take_drop : ∀ {l : List Ed},SrcUp l → ∀ s : Int,l.take (l.filter fun x => decide (x.src < s)).length = l.filter (fun x => decide (x.src < s)) ∧ l.drop (l.filter fun x => decide (x.src < s)).length = l.filter (fun x => decide (s ≤ x.src))
 | [],_,s => ⟨rfl,rfl⟩
 | x :: l,h,s => by
   obtain ⟨h1,h2⟩ := List.pairwise_cons.1 h
   by_cases e : x.src < s
   · have ih := SrcUp.take_drop h2 s
     have e' : ¬ s ≤ x.src := by omega
     simp only [List.filter_cons,e,e',decide_true,decide_false,if_true,List.length_cons,List.take_succ_cons,List.drop_succ_cons]
     simp only [Bool.false_eq_true,if_false]
     exact ⟨by rw [ih.1],ih.2⟩
   · have e' : s ≤ x.src := by omega
     have n1 : l.filter (fun x => decide (x.src < s)) = [] := List.filter_eq_nil_iff.2 fun y hy => by have := h1 y hy; simp; omega
     have n2 : l.filter (fun x => decide (s ≤ x.src)) = l := List.filter_eq_self.2 fun y hy => by have := h1 y hy; simp; omega
     simp only [List.filter_cons,e,e',decide_true,decide_false,if_true,n1,n2]
     simp
theorem outOf_range {l : List Ed} (h : SrcUp l) (s : Nat) : outOf l s = (l.take (fstV l (s + 1))).drop (fstV l s) := by
 have h1 := (h.take_drop ((s + 1 : Nat) : Int)).1
 have h2 : SrcUp (l.filter fun x => decide (x.src < ((s + 1 : Nat) : Int))) := h.filter _
 have h3 := (h2.take_drop (s : Int)).2
 have e1 : (l.filter fun x => decide (x.src < ((s + 1 : Nat) : Int))).filter (fun x => decide (x.src < (s : Int))) = l.filter fun x => decide (x.src < (s : Int)) := by
  rw [List.filter_filter]
  refine List.filter_congr fun x _ => ?_
  by_cases g : x.src < (s : Int)
  · have : x.src < ((s + 1 : Nat) : Int) := by omega
    simp only [g,this,decide_true,Bool.and_self]
  · simp only [g,decide_false,Bool.false_and]
 rw [e1] at h3
 unfold fstV
 rw [h1,h3,List.filter_filter]
 unfold outOf
 refine List.filter_congr fun x _ => ?_
 rw [Bool.eq_iff_iff]
 simp
 omega
theorem fstV_mono (l : List Ed) (s : Nat) : fstV l s ≤ fstV l (s + 1) := by rw [fstV_succ]; omega
theorem Au.Right.srcUp {a : Au} (hr : a.Right) : SrcUp a.ed := List.pairwise_iff_getElem.2 fun i j hi hj hij => by
 rcases hr.lex i j _ _ hij (List.getElem?_eq_getElem hi) (List.getElem?_eq_getElem hj) with h | h <;> omega
theorem outOf_size {a : Au} (hr : a.Right) (s : Nat) : (outOf a.ed s).length = fstV a.ed (s + 1) - fstV a.ed s := by
 rw [outOf_range hr.srcUp,List.length_drop,List.length_take]
 have := fstV_le a.ed (s + 1)
 omega
theorem outOf_at {a : Au} (hr : a.Right) (s t : Nat) (h : t < fstV a.ed (s + 1) - fstV a.ed s) : (outOf a.ed s)[t]? = a.ed[fstV a.ed s + t]? := by
 rw [outOf_range hr.srcUp,List.getElem?_drop,List.getElem?_take,if_pos (by omega)]

theorem rises_len' {n : Nat} {l : List Int} (h : Rises (fun x y : Int => x < y) l) (hr : ∀ x,x ∈ l → 0 ≤ x ∧ x < n) : l.length ≤ n := by
 have key : ∀ (i : Nat) x,l[i]? = some x → (i : Int) ≤ x := by
  intro i
  induction i with
  | zero => intro x hx; exact (hr x (List.mem_of_getElem? hx)).1
  | succ i ih =>
    intro x hx
    have hi := (List.getElem?_eq_some_iff.1 hx).1
    have h1 := ih _ (List.getElem?_eq_getElem (show i < l.length by omega))
    have h2 := h i (i + 1) _ x (by omega) (List.getElem?_eq_getElem (show i < l.length by omega)) hx
    omega
 rcases Nat.eq_zero_or_pos l.length with e | e
 · omega
 · have h1 := key (l.length - 1) _ (List.getElem?_eq_getElem (by omega))
   have h2 := hr _ (List.getElem_mem (show l.length - 1 < l.length by omega))
   omega
theorem outOf_32' {a : Au} (hr : a.Right) (s : Nat) : (outOf a.ed s).length ≤ 32 := by
 have := rises_len' (n := 32) (l := (outOf a.ed s).map (·.ev)) (fun i j x y hij hx hy => by
  rw [List.getElem?_map,Option.map_eq_some_iff] at hx hy
  obtain ⟨u,hu,rfl⟩ := hx
  obtain ⟨v,hv,rfl⟩ := hy
  exact outOf_rises hr s i j u v hij hu hv) (fun x hx => by
  obtain ⟨u,hu,rfl⟩ := List.mem_map.1 hx
  obtain ⟨p,hp,hpx⟩ := List.mem_iff_getElem.1 (mem_outOf.1 hu).1
  have h1 := (hr.edge (p := p) (by rw [List.getElem?_eq_getElem hp,hpx])).2.2.2.2
  obtain ⟨i,hi,hix⟩ := List.mem_iff_getElem.1 h1
  have := hr.al i _ hi (List.getElem?_eq_getElem hi)
  rw [hix] at this
  exact ⟨this.1,this.2.1⟩)
 simpa using this
theorem fstV_32 {a : Au} (hr : a.Right) : ∀ j : Nat,fstV a.ed j ≤ 32 * j
 | 0 => by rw [fstV_zero (fun x hx => by
    obtain ⟨p,hp,hpx⟩ := List.mem_iff_getElem.1 hx
    exact (hr.edge (p := p) (by rw [List.getElem?_eq_getElem hp,hpx])).1)]; exact Nat.le_refl _
 | j + 1 => by
   have h1 := fstV_32 hr j
   have h2 := outOf_32' hr j
   rw [outOf_size hr] at h2
   omega
theorem fstV_all {a : Au} (hr : a.Right) : fstV a.ed a.n.toNat = a.ed.length := by
 unfold fstV
 rw [List.filter_eq_self.2 (fun x hx => by
  obtain ⟨p,hp,hpx⟩ := List.mem_iff_getElem.1 hx
  have := (hr.edge (p := p) (by rw [List.getElem?_eq_getElem hp,hpx])).2.1
  simp; omega)]
theorem ed_len {a : Au} (hr : a.Right) : a.ed.length ≤ 131072 := by
 have h1 := fstV_32 hr a.n.toNat
 rw [fstV_all hr] at h1
 have := hr.n1
 omega

def kth (a : Au) (keep : Int → Bool) (v : Int) (t : Nat) : Nat := (((outOf a.ed v.toNat).take t).filter fun x => keep x.dst).length
def predsOf (l : List Ed) (s : Nat) : List Int := (l.filter fun x => decide (x.dst = (s : Int))).map (·.src)
theorem predsOf_snoc (l : List Ed) (x : Ed) (s : Nat) : predsOf (l ++ [x]) s = if x.dst = (s : Int) then predsOf l s ++ [x.src] else predsOf l s := by
 unfold predsOf
 rw [List.filter_append,List.map_append]
 by_cases h : x.dst = (s : Int) <;> simp [h]
theorem mem_predsOf {l : List Ed} {s : Nat} {p : Int} : p ∈ predsOf l s ↔ ∃ x,x ∈ l ∧ x.dst = (s : Int) ∧ x.src = p := by
 unfold predsOf
 simp only [List.mem_map,List.mem_filter,decide_eq_true_eq]
 constructor
 · rintro ⟨x,⟨h1,h2⟩,h3⟩; exact ⟨x,h1,h2,h3⟩
 · rintro ⟨x,h1,h2,h3⟩; exact ⟨x,⟨h1,h2⟩,h3⟩
theorem predsOf_len (l : List Ed) (s : Nat) : (predsOf l s).length ≤ l.length := by
 unfold predsOf; rw [List.length_map]; exact List.length_filter_le _ _
structure Bwd (a : Au) (N : Nat) (tq fs : List Int) (d : Nat → Int) (h k : Nat) : Prop where
 mem : ∀ s : Nat,s < N → (0 ≤ d s ↔ (s : Int) ∈ fs)
 le : ∀ (j : Nat) v,fs[j]? = some v → d v.toNat ≤ j
 nd : fs.Nodup
 rg : ∀ v,v ∈ fs → 0 ≤ v ∧ v < N
 snd : ∀ v,v ∈ fs → ∃ w,runV a.ed v w ∈ tq
 tgt : ∀ v,v ∈ tq → v ∈ fs
 cl : ∀ (j q : Nat) v p,fs[j]? = some v → (predsOf a.ed v.toNat)[q]? = some p → (j < h ∨ j = h ∧ q < k) → p ∈ fs
section
variable {a : Au} {N h k : Nat} {tq fs : List Int} {d : Nat → Int}
theorem Bwd.len (B : Bwd a N tq fs d h k) : fs.length ≤ N := by
 have := sub_len (fs.map Int.toNat) (List.range N) (by
  rw [List.nodup_iff_pairwise_ne,List.pairwise_map]
  have hp := List.nodup_iff_pairwise_ne.1 B.nd
  refine (List.Pairwise.imp_of_mem ?_ hp)
  intro x y hx hy hxy
  have := B.rg x hx; have := B.rg y hy
  omega) (fun x hx => by
  obtain ⟨v,hv,rfl⟩ := List.mem_map.1 hx
  have := B.rg v hv
  simp; omega)
 simpa using this
theorem Bwd.next (B : Bwd a N tq fs d h k) {v : Int} (hv : fs[h]? = some v) (hk : (predsOf a.ed v.toNat).length ≤ k) : Bwd a N tq fs d (h + 1) 0 :=
 ⟨B.mem,B.le,B.nd,B.rg,B.snd,B.tgt,fun j q u p hu hp hc => by
  by_cases g : j < h
  · exact B.cl j q u p hu hp (.inl g)
  · obtain rfl : j = h := by omega
    rw [hv] at hu; cases hu
    have := (List.getElem?_eq_some_iff.1 hp).1
    exact B.cl j q v p hv hp (.inr ⟨rfl,by omega⟩)⟩
theorem Bwd.old (B : Bwd a N tq fs d h k) {v p : Int} (hv : fs[h]? = some v) (hp : (predsOf a.ed v.toNat)[k]? = some p) (hm : p ∈ fs) : Bwd a N tq fs d h (k + 1) :=
 ⟨B.mem,B.le,B.nd,B.rg,B.snd,B.tgt,fun j q u p' hu hp' hc => by
  by_cases g : j < h ∨ j = h ∧ q < k
  · exact B.cl j q u p' hu hp' g
  · obtain ⟨rfl,rfl⟩ : j = h ∧ q = k := by omega
    rw [hv] at hu; cases hu
    rw [hp] at hp'; cases hp'
    exact hm⟩
theorem Bwd.new (hr : a.Right) (hN : a.n = N) (B : Bwd a N tq fs d h k) {v p : Int} (hv : fs[h]? = some v) (hp : (predsOf a.ed v.toNat)[k]? = some p) (hm : ¬ p ∈ fs) :
 Bwd a N tq (fs ++ [p]) (fun s => if s = p.toNat then d v.toNat + 1 else d s) h (k + 1) := by
 have hhl := (List.getElem?_eq_some_iff.1 hv).1
 have hvm := List.mem_of_getElem? hv
 have hvr := B.rg v hvm
 obtain ⟨x,hx,x1,x2⟩ := mem_predsOf.1 (List.mem_of_getElem? hp)
 have hn := edge_next hr hx
 have hp0 : 0 ≤ p ∧ p < N := by rw [← x2]; omega
 have hd0 : 0 ≤ d v.toNat := (B.mem v.toNat (by omega)).2 (by rw [Int.toNat_of_nonneg hvr.1]; exact hvm)
 refine ⟨fun s hs => ?_,fun j u hu => ?_,?_,fun u hu => ?_,fun u hu => ?_,fun u hu => List.mem_append_left _ (B.tgt u hu),fun j q u p' hu hp' hc => ?_⟩
 · rw [List.mem_append,List.mem_singleton]
   by_cases e : s = p.toNat
   · rw [if_pos e]
     exact ⟨fun _ => .inr (by omega),fun _ => by omega⟩
   · rw [if_neg e,B.mem s hs]
     exact ⟨.inl,fun g => g.elim id fun g => by omega⟩
 · rcases getElem?_snoc hu with g | ⟨g,rfl⟩
   · have h1 := B.le j u g
     have h2 := B.rg u (List.mem_of_getElem? g)
     have : u ≠ p := fun e => hm (by rw [← e]; exact List.mem_of_getElem? g)
     rw [if_neg (by omega)]; exact h1
   · rw [if_pos rfl]
     have h1 := B.le h v hv
     omega
 · rw [List.nodup_append]
   exact ⟨B.nd,by simp,fun x hx y hy => by rw [List.mem_singleton.1 hy]; rintro rfl; exact hm hx⟩
 · rcases List.mem_append.1 hu with g | g
   · exact B.rg u g
   · rw [List.mem_singleton.1 g]; exact hp0
 · rcases List.mem_append.1 hu with g | g
   · exact B.snd u g
   · rw [List.mem_singleton.1 g]
     obtain ⟨w,hw⟩ := B.snd v hvm
     refine ⟨x.ev :: w,?_⟩
     simp only [runV,hp0.1,if_true]
     rw [← x2,hn.1,x1,Int.toNat_of_nonneg hvr.1]
     exact hw
 · rcases getElem?_snoc hu with g | ⟨g,rfl⟩
   · by_cases c : j < h ∨ j = h ∧ q < k
     · exact List.mem_append_left _ (B.cl j q u p' g hp' c)
     · obtain ⟨rfl,rfl⟩ : j = h ∧ q = k := by omega
       rw [hv] at g; cases g
       rw [hp] at hp'; cases hp'
       simp
   · omega
theorem Bwd.start (hnd : tq.Nodup) (hrg : ∀ v,v ∈ tq → 0 ≤ v ∧ v < N) : Bwd a N tq tq (fun s => if (s : Int) ∈ tq then 0 else -1) 0 0 :=
 ⟨fun s _ => by by_cases g : (s : Int) ∈ tq <;> simp [g],fun j v hv => by
  have := hrg v (List.mem_of_getElem? hv)
  rw [Int.toNat_of_nonneg this.1,if_pos (List.mem_of_getElem? hv)]; omega,hnd,hrg,fun v hv => ⟨[],hv⟩,fun _ h => h,fun j q v p _ _ h => by omega⟩
theorem Bwd.fin (hr : a.Right) (hN : a.n = N) (hto : ∀ v,v ∈ tq → 0 ≤ v) (B : Bwd a N tq fs d fs.length k) {s : Nat} (hs : s < N) : 0 ≤ d s ↔ ∃ w,runV a.ed s w ∈ tq := by
 rw [B.mem s hs]
 constructor
 · exact B.snd _
 · rintro ⟨w,hw⟩
   have key : ∀ (w : List Int) (v : Int),0 ≤ v → runV a.ed v w ∈ tq → v ∈ fs := by
    intro w
    induction w with
    | nil => intro v _ h; exact B.tgt v h
    | cons e r ih =>
      intro v hv h
      simp only [runV,hv,if_true] at h
      rcases hr.next_cases v e with g | ⟨g0,g1,x,hx,x1,x2,x3⟩
      · rw [g,runV_neg _ (by omega)] at h
        have := hto _ h; omega
      · have hu := ih _ g0 h
        obtain ⟨j,hj,hju⟩ := List.mem_iff_getElem.1 hu
        have hpm : v ∈ predsOf a.ed (nextV a.ed v e).toNat := mem_predsOf.2 ⟨x,hx,by rw [x3,Int.toNat_of_nonneg g0],x1⟩
        obtain ⟨q,hq,hqv⟩ := List.mem_iff_getElem.1 hpm
        exact B.cl j q _ v (by rw [List.getElem?_eq_getElem hj,hju]) (by rw [List.getElem?_eq_getElem hq,hqv]) (.inl hj)
   exact key w s (Int.natCast_nonneg _) hw
end
end
def pdV (a b : Au) (v : Int × Int) : Bool := if v = (-1,-1) then false else decide (v.1 = -1) || decide (v.2 = -1) || (decide (v.1 ∈ a.mr) != decide (v.2 ∈ b.mr))
theorem pdV_dead (a b : Au) : pdV a b (-1,-1) = false := by simp [pdV]
def GivesD (a b : Au) (x y : Int) (w : World) (e : Ending) (w' : World) : Prop := ∃ (A : Option Addr) (c : Nat) (l : List Int) (f : Bool),e = .returned (.tuple #[.slice A l.length c,.bool f]) ∧ Hid (IntsAt w' A l) ∧ Below w.heap.size w w' ∧
 Hid (f = true ∧ LeastW (LeadsTo (stp2 a b) (x,y) (unionS a.al b.al) (fun q => pdV a b q = true)) l ∨ f = false ∧ l = [] ∧ ∀ u,¬ LeadsTo (stp2 a b) (x,y) (unionS a.al b.al) (fun q => pdV a b q = true) u)
theorem al_len {a : Au} (hr : a.Right) : a.al.length ≤ 32 :=
 rises_len (n := 32) (l := a.al) hr.al.incr (fun x hx => by
  obtain ⟨i,hi,rfl⟩ := List.mem_iff_getElem.1 hx
  have := hr.al i _ hi (List.getElem?_eq_getElem hi)
  exact ⟨this.1,this.2.1⟩)
theorem Au.Right.evr {a : Au} (hr : a.Right) {x : Int} (hx : x ∈ a.al) : 0 ≤ x ∧ x < 32 := by
 obtain ⟨i,hi,rfl⟩ := List.mem_iff_getElem.1 hx
 have := hr.al i _ hi (List.getElem?_eq_getElem hi)
 exact ⟨this.1,this.2.1⟩
theorem EvUp.out {a : Au} (hr : a.Right) (s : Nat) : EvUp (outOf a.ed s) := by
 have h := outOf_rises hr s
 exact List.pairwise_iff_getElem.2 fun i j hi hj hij => Int.le_of_lt (h i j _ _ hij (List.getElem?_eq_getElem hi) (List.getElem?_eq_getElem hj))
theorem ev_uniq {a : Au} (hr : a.Right) (s : Nat) : ∀ x y,x ∈ outOf a.ed s → y ∈ outOf a.ed s → x.ev = y.ev → x = y := fun x y hx hy he => by
 have h1 := mem_outOf.1 hx
 have h2 := mem_outOf.1 hy
 exact hr.uniq h1.1 h2.1 (h1.2.trans h2.2.symm) he
theorem stepRow_c {a : Au} (hr : a.Right) (A : Option Addr) (c s : Nat) (e : Int) (w : World) (h : EdsAt w A (outOf a.ed s)) (h0 : 0 ≤ e) (h1 : e ≤ 1000) :
 Calls Try.prog 68 #[.slice A (outOf a.ed s).length c,.int .i64 e] w (Ret (.int .i64 (toV (stepOf a.ed) s e)) w) := by
 have hl : (outOf a.ed s).length ≤ 1000000 := Nat.le_trans (List.length_filter_le _ _) (Nat.le_trans (ed_len hr) (by decide))
 have := stepE_c A c (outOf a.ed s) e w h hl (EvUp.out hr s) (ev_uniq hr s) (fun x hx => by
  have := hr.ev (mem_outOf.1 hx).1; omega) (by omega) (by omega)
 rw [stepL_out,hr.next] at this
 exact this
set_option maxHeartbeats 8000000 in
theorem distinguish_c (a b : Au) (p q : AuP) (x y : Nat) (w : World) (ha : a.Right) (hb : b.Right) (ca : Caps a p) (cb : Caps b q) (hA : Au.At w a p) (hB : Au.At w b q) (hx : (x : Int) < a.n) (hy : (y : Int) < b.n) (hN : (a.n.toNat + 2) * (b.n.toNat + 2) ≤ 1000000) :
 Calls Try.prog 41 #[a.val p,b.val q,.int .i64 (x : Int),.int .i64 (y : Int)] w (GivesD a b x y w) := by
 have n0 := ha.n0
 have hn := ha.n1
 have m0 := hb.n0
 have hm := hb.n1
 have HMA : Hid (∀ x,x ∈ a.mr → 0 ≤ x ∧ x < a.n) := fun x hx => ha.mem hx
 have HMB : Hid (∀ x,x ∈ b.mr → 0 ≤ x ∧ x < b.n) := fun x hx => hb.mem hx
 have RA := Lib.hid ha
 have RB := Lib.hid hb
 have CA := Lib.hid ca
 have CB := Lib.hid cb
 have HA := Lib.hid hA
 have HB := Lib.hid hB
 have HN := Lib.hid hN
 obtain ⟨al,n,mr,ed⟩ := a
 obtain ⟨A1,c1,A2,c2,A3,c3⟩ := p
 obtain ⟨bl,m,nr,fd⟩ := b
 obtain ⟨B1,d1,B2,d2,B3,d3⟩ := q
 obtain ⟨n,rfl⟩ := Int.eq_ofNat_of_zero_le n0
 obtain ⟨m,rfl⟩ := Int.eq_ofNat_of_zero_le m0
 try dsimp only [Au.val] at *
 clear ha hb ca cb hA hB hN n0 m0
 have hmm := @run_makeMap Try.prog
 go_enter Try.func41,Try.ntmps41
 go_upto_region 1 with fail
 refine wp_world (fun W => Sep w.heap.size w [eBlk (w.heap.size + 1) 25 [.slice B1 bl.length d1,.int .i64 (m : Int),.slice B2 nr.length d2,.slice B3 fd.length d3],eBlk w.heap.size 25 [.slice A1 al.length c1,.int .i64 (n : Int),.slice A2 mr.length c2,.slice A3 ed.length c3]] W) ?_ fun W S => ?_
 · exact ((Sep.here w).alloc' _ [_,_,_,_] rfl rfl).alloc' _ [_,_,_,_] (g := w.heap.size + 1) rfl (by simp)
 have S0 := Lib.hid S
 clear S
 go_cut [10,11] (fun v10 v11 wx => ∃ g1 g2,v10 = .slice (some ⟨g1,0,none⟩) n n ∧ v11 = .slice (some ⟨g2,0,none⟩) m m ∧ Hid (Sep w.heap.size w [eBlk g1 4 (mkB n fun s => decide ((s : Int) ∈ mr)),eBlk g2 4 (mkB m fun s => decide ((s : Int) ∈ nr)),eBlk (w.heap.size + 1) 25 [.slice B1 bl.length d1,.int .i64 (m : Int),.slice B2 nr.length d2,.slice B3 fd.length d3],eBlk w.heap.size 25 [.slice A1 al.length c1,.int .i64 (n : Int),.slice A2 mr.length c2,.slice A3 ed.length c3]] wx))
 case first =>
  have S1 := Lib.hid S0.out.drew
  refine wp_region_held_drew (S := (fun V => Sep w.heap.size w [eBlk (w.heap.size + 1) 25 [.slice B1 bl.length d1,.int .i64 (m : Int),.slice B2 nr.length d2,.slice B3 fd.length d3],eBlk w.heap.size 25 [.slice A1 al.length c1,.int .i64 (n : Int),.slice A2 mr.length c2,.slice A3 ed.length c3]] V)) (by kernel_rfl) ?_ (fun hHeld => ?_)
  · exact S1.out.pick [0,1] (by decide)
  generalize hwz : W.drew = w1 at *
  clear hwz
  refine tkH 0 rfl (v := ?_) (by kernel_rfl) ?_ hHeld ?_
  rotate_left
  · intro V hSw
    have a0 := ckC hSw 1 rfl 0 rfl
    have a1 := ckC hSw 1 rfl 1 rfl
    have a2 := ckC hSw 1 rfl 2 rfl
    have a3 := ckC hSw 1 rfl 3 rfl
    clear hSw
    first | (go_simp; done) | (go_simp; with_reducible rfl)
  try simp only [sx]
  refine tkH 2 rfl (v := ?_) (by kernel_rfl) ?_ hHeld ?_
  rotate_left
  · intro V hSw
    have b0 := ckC hSw 0 rfl 0 rfl
    have b1 := ckC hSw 0 rfl 1 rfl
    have b2 := ckC hSw 0 rfl 2 rfl
    have b3 := ckC hSw 0 rfl 3 rfl
    clear hSw
    first | (go_simp; done) | (go_simp; with_reducible rfl)
  try simp only [sx]
  refine rdH 1 rfl fun K hK => ?_
  go_simp
  refine (marks_c ⟨al,(n : Int),mr,ed⟩ ⟨A1,c1,A2,c2,A3,c3⟩ w1 HMA.out (Int.natCast_nonneg _) hn (HA.out.below S1.out.below)).mono ?_
  rintro e w2 ⟨g1,rfl,T⟩
  have S2 := ckN S1.out T.out
  clear T
  refine hK.out _ _ ?_ (fun hHeld => ?_)
  · exact S2.out.pick [1,2] (by decide)
  clear hK K
  try simp only [sx]
  refine rdH 3 rfl fun K hK => ?_
  go_simp
  refine (marks_c ⟨bl,(m : Int),nr,fd⟩ ⟨B1,d1,B2,d2,B3,d3⟩ w2 HMB.out (Int.natCast_nonneg _) hm (HB.out.below S2.out.below)).mono ?_
  rintro e w3 ⟨g2,rfl,T⟩
  have S3 := ckN S2.out T.out
  clear T
  refine hK.out _ _ ?_ (fun hHeld => ?_)
  · exact S3.out.pick [2,3] (by decide)
  clear hK K
  try simp only [sx]
  refine tkP 4 rfl hHeld ?_
  try simp only [sx]
  refine tkP 5 rfl hHeld ?_
  try simp only [sx]
  refine wpAnyH_done (by kernel_rfl) ?_ _
  go_wp2_with fail
  go_meet
  exact ⟨g1,g2,rfl,rfl,S3.out.pick [1,0,2,3] (by decide)⟩
 case rest =>
  obtain ⟨g1,g2,rfl,rfl,S1⟩ := hcut
  clear S0
  go_upto_region 2 with fail
  go_cut [12,13] (fun v12 v13 wx => ∃ h1 h2 us vs,v12 = .slice (some ⟨h1,0,none⟩) n n ∧ v13 = .slice (some ⟨h2,0,none⟩) m m ∧ Hid (∀ V,EdsAt V A3 ed → EdgRow V ed n us) ∧ Hid (∀ V,EdsAt V B3 fd → EdgRow V fd m vs) ∧ Hid (Sep w.heap.size w [eBlk h1 23 us,eBlk h2 23 vs,eBlk g1 4 (mkB n fun s => decide ((s : Int) ∈ mr)),eBlk g2 4 (mkB m fun s => decide ((s : Int) ∈ nr)),eBlk (w.heap.size + 1) 25 [.slice B1 bl.length d1,.int .i64 (m : Int),.slice B2 nr.length d2,.slice B3 fd.length d3],eBlk w.heap.size 25 [.slice A1 al.length c1,.int .i64 (n : Int),.slice A2 mr.length c2,.slice A3 ed.length c3]] wx))
  case first =>
   have S4 := Lib.hid S1.out.drew
   refine wp_region_held_drew (S := (fun V => Sep w.heap.size w [eBlk (w.heap.size + 1) 25 [.slice B1 bl.length d1,.int .i64 (m : Int),.slice B2 nr.length d2,.slice B3 fd.length d3],eBlk w.heap.size 25 [.slice A1 al.length c1,.int .i64 (n : Int),.slice A2 mr.length c2,.slice A3 ed.length c3]] V)) (by kernel_rfl) ?_ (fun hHeld => ?_)
   · exact S4.out.pick [2,3] (by decide)
   generalize hwz : wc.drew = w4 at *
   clear hwz
   refine tkH 0 rfl (v := ?_) (by kernel_rfl) ?_ hHeld ?_
   rotate_left
   · intro V hSw
     have a0 := ckC hSw 1 rfl 0 rfl
     have a1 := ckC hSw 1 rfl 1 rfl
     have a2 := ckC hSw 1 rfl 2 rfl
     have a3 := ckC hSw 1 rfl 3 rfl
     clear hSw
     first | (go_simp; done) | (go_simp; with_reducible rfl)
   try simp only [sx]
   refine tkH 2 rfl (v := ?_) (by kernel_rfl) ?_ hHeld ?_
   rotate_left
   · intro V hSw
     have b0 := ckC hSw 0 rfl 0 rfl
     have b1 := ckC hSw 0 rfl 1 rfl
     have b2 := ckC hSw 0 rfl 2 rfl
     have b3 := ckC hSw 0 rfl 3 rfl
     clear hSw
     first | (go_simp; done) | (go_simp; with_reducible rfl)
   try simp only [sx]
   refine rdH 1 rfl fun K hK => ?_
   go_simp
   refine (edges_c ⟨al,(n : Int),mr,ed⟩ ⟨A1,c1,A2,c2,A3,c3⟩ w4 RA.out CA.out (HA.out.below S4.out.below)).mono ?_
   rintro e w5 ⟨h1,us,rfl,T,HU⟩
   have S5 := ckN S4.out T.out
   clear T
   refine hK.out _ _ ?_ (fun hHeld => ?_)
   · exact S5.out.pick [3,4] (by decide)
   clear hK K
   try simp only [sx]
   refine rdH 3 rfl fun K hK => ?_
   go_simp
   refine (edges_c ⟨bl,(m : Int),nr,fd⟩ ⟨B1,d1,B2,d2,B3,d3⟩ w5 RB.out CB.out (HB.out.below S5.out.below)).mono ?_
   rintro e w6 ⟨h2,vs,rfl,T,HV⟩
   have S6 := ckN S5.out T.out
   clear T
   refine hK.out _ _ ?_ (fun hHeld => ?_)
   · exact S6.out.pick [4,5] (by decide)
   clear hK K
   try simp only [sx]
   refine tkP 4 rfl hHeld ?_
   try simp only [sx]
   refine tkP 5 rfl hHeld ?_
   try simp only [sx]
   refine wpAnyH_done (by kernel_rfl) ?_ _
   go_wp2_with fail
   go_meet
   exact ⟨h1,h2,us,vs,rfl,rfl,HU.out,HV.out,S6.out.pick [1,0,2,3,4,5] (by decide)⟩
  case rest =>
   obtain ⟨h1,h2,us,vs,rfl,rfl,HU,HV,S2⟩ := hcut
   clear S1
   have i0 := HA.out.al.below IntE.stays S2.out.below
   have j0 := HB.out.al.below IntE.stays S2.out.below
   have I0 := Lib.hid i0
   have J0 := Lib.hid j0
   have HINC : Hid (incr (unionS al bl)) := unionS_incr al bl
   have aL := al_len RA.out
   have bL := al_len RB.out
   simp only at aL bL
   have HUL : Hid ((unionS al bl).length ≤ 64) := Nat.le_trans (unionS_len al bl) (by omega)
   have a0 := ckC S2.out 5 rfl 0 rfl
   have b0 := ckC S2.out 4 rfl 0 rfl
   clear i0 j0
   go_wp2_with fail
   refine (union_c A1 B1 c1 d1 al bl wc I0.out J0.out (by omega) (by omega)).mono ?_
   rintro e w3 ⟨vU,rfl,OU,hb⟩
   obtain ⟨AU,cU,rfl⟩ := OU.out.form
   obtain ⟨al3,hal3⟩ : ∃ l,l = unionS al bl := ⟨_,rfl⟩
   rw [← hal3] at OU HINC HUL ⊢
   have HL3 := Lib.hid hal3
   have S3 : Hid (Sep w.heap.size w [eInts al3 (.slice AU al3.length cU),eBlk h1 23 us,eBlk h2 23 vs,eBlk g1 4 (mkB n fun s => decide ((s : Int) ∈ mr)),eBlk g2 4 (mkB m fun s => decide ((s : Int) ∈ nr)),eBlk (w.heap.size + 1) 25 [.slice B1 bl.length d1,.int .i64 (m : Int),.slice B2 nr.length d2,.slice B3 fd.length d3],eBlk w.heap.size 25 [.slice A1 al.length c1,.int .i64 (n : Int),.slice A2 mr.length c2,.slice A3 ed.length c3]] w3) := S2.out.newI OU.out hb
   clear S2 hal3 OU hb a0 b0 aL bL I0 J0
   go_upto_region 5 with fail
   refine wp_world (fun W => ∃ b4,b4 = w3.heap.size ∧ Sep w.heap.size w [eVs [⟨x,y,-1,-1⟩] (.slice (some ⟨b4,0,none⟩) 1 1),eInts al3 (.slice AU al3.length cU),eBlk h1 23 us,eBlk h2 23 vs,eBlk g1 4 (mkB n fun s => decide ((s : Int) ∈ mr)),eBlk g2 4 (mkB m fun s => decide ((s : Int) ∈ nr)),eBlk (w.heap.size + 1) 25 [.slice B1 bl.length d1,.int .i64 (m : Int),.slice B2 nr.length d2,.slice B3 fd.length d3],eBlk w.heap.size 25 [.slice A1 al.length c1,.int .i64 (n : Int),.slice A2 mr.length c2,.slice A3 ed.length c3]] W) ⟨_,rfl,(S3.out.alloc' 102 [.int .i64 (x : Int),.int .i64 (y : Int),.int .i64 (-1),.int .i64 (-1)] rfl rfl).own 0 rfl Vs.cells 4 [⟨x,y,-1,-1⟩] rfl (fun _ => rfl) (by simp [maxLen])⟩ fun W4 S => ?_
   obtain ⟨b4,h4,S'⟩ := S
   rw [← h4]
   have S4 := Lib.hid S'
   clear S' S3 h4
   have S5 := S4.out.allocMap key2 veB (g := W4.heap.size) rfl
   obtain ⟨V1,e1,q1,k1⟩ := MapG.store ok2 Try.underlying104 (S5.get 0 rfl) (x,y) true
   simp only [key2,veB] at e1
   obtain ⟨mp,hmp⟩ : ∃ mp,mp = W4.heap.size := ⟨_,rfl⟩
   have S6 : Hid (Sep w.heap.size w [eMap key2 veB mp (memF [((x : Int),(y : Int))]),eVs [⟨x,y,-1,-1⟩] (.slice (some ⟨b4,0,none⟩) 1 1),eInts al3 (.slice AU al3.length cU),eBlk h1 23 us,eBlk h2 23 vs,eBlk g1 4 (mkB n fun s => decide ((s : Int) ∈ mr)),eBlk g2 4 (mkB m fun s => decide ((s : Int) ∈ nr)),eBlk (w.heap.size + 1) 25 [.slice B1 bl.length d1,.int .i64 (m : Int),.slice B2 nr.length d2,.slice B3 fd.length d3],eBlk w.heap.size 25 [.slice A1 al.length c1,.int .i64 (n : Int),.slice A2 mr.length c2,.slice A3 ed.length c3]] V1) := by
    rw [hmp]
    exact S5.chg 0 rfl (eMap key2 veB W4.heap.size (memF [((x : Int),(y : Int))])) (Off.grown k1) (q1.congr fun u => by simp only [memF,List.mem_singleton]) (fun g hg => .inl hg)
   have HE1 := Lib.hid e1
   clear S5 q1 k1
   go_upto_region 6 with fail
   rw [← hmp]
   clear hmm hmp e1 HE1 S4
   have LB : Hid (∀ i k t vis ws,DInv ⟨al,(n : Int),mr,ed⟩ ⟨bl,(m : Int),nr,fd⟩ (x,y) al3 (pdV ⟨al,(n : Int),mr,ed⟩ ⟨bl,(m : Int),nr,fd⟩) i k t vis ws → vis.length ≤ 1000000) := fun i k t vis ws h => Nat.le_trans (h.len RA.out RB.out) HN.out
   go_wp2_with fail
   go_loopw [15,17] (fun v i wr => ∃ (k : Nat) (vis : List Vs) (ws : List (List Int)),i = .int .i64 (k : Int) ∧ k ≤ vis.length ∧ Hid (DInv ⟨al,(n : Int),mr,ed⟩ ⟨bl,(m : Int),nr,fd⟩ (x,y) al3 (pdV ⟨al,(n : Int),mr,ed⟩ ⟨bl,(m : Int),nr,fd⟩) k 0 k vis ws) ∧ Hid (Sep w.heap.size w [eMap key2 veB mp (memF ((vis).map Vs.pr)),eVs vis v,eInts al3 (.slice AU al3.length cU),eBlk h1 23 us,eBlk h2 23 vs,eBlk g1 4 (mkB n fun s => decide ((s : Int) ∈ mr)),eBlk g2 4 (mkB m fun s => decide ((s : Int) ∈ nr)),eBlk (w.heap.size + 1) 25 [.slice B1 bl.length d1,.int .i64 (m : Int),.slice B2 nr.length d2,.slice B3 fd.length d3],eBlk w.heap.size 25 [.slice A1 al.length c1,.int .i64 (n : Int),.slice A2 mr.length c2,.slice A3 ed.length c3]] wr)) (fun _ i _ => 1000001 - (intOf i).toNat)
   case atStart => exact ⟨0,[⟨x,y,-1,-1⟩],[[]],rfl,by simp,DInv.start al3 _ x y (by simp only; omega) (by simp only; omega) (by intro h; cases h),S6.out⟩
   case round =>
    clear S6
    obtain ⟨k,vis,ws,rfl,hk,SI,S⟩ := hrel
    have hvl := LB.out _ _ _ _ _ SI.out
    obtain ⟨A,c,rfl⟩ := S.out.form 1 rfl
    by_cases hlt : k < vis.length
    · obtain ⟨vk,hvk⟩ : ∃ vk,vis[k]? = some vk := ⟨_,List.getElem?_eq_getElem hlt⟩
      obtain ⟨gb,off,hA,hgb,f0,f1,f2,f3⟩ := VsE.get (Own.reads (fun _ => rfl) (S.out.get 1 rfl)) hvk
      subst hA
      obtain ⟨vx,vy,vb,ve⟩ := vk
      dsimp only at f0 f1 f2 f3
      have HV0 := Lib.hid hvk
      have HRG := Lib.hid (SI.out.rg _ (List.mem_of_getElem? hvk))
      have HAL := Lib.hid (SI.out.al _ (List.mem_of_getElem? hvk))
      have hlz := hlt
      clear hvk
      go_upto_region 10 with fail
      obtain ⟨np,hnp⟩ : ∃ np,np = wr.heap.size := ⟨_,rfl⟩
      rw [← hnp]
      refine wp_world (fun W => Sep w.heap.size w [eBlk np 26 [.int .i64 vx,.int .i64 vy],eMap key2 veB mp (memF ((vis).map Vs.pr)),eVs vis (.slice (some ⟨gb,off,none⟩) vis.length c),eInts al3 (.slice AU al3.length cU),eBlk h1 23 us,eBlk h2 23 vs,eBlk g1 4 (mkB n fun s => decide ((s : Int) ∈ mr)),eBlk g2 4 (mkB m fun s => decide ((s : Int) ∈ nr)),eBlk (w.heap.size + 1) 25 [.slice B1 bl.length d1,.int .i64 (m : Int),.slice B2 nr.length d2,.slice B3 fd.length d3],eBlk w.heap.size 25 [.slice A1 al.length c1,.int .i64 (n : Int),.slice A2 mr.length c2,.slice A3 ed.length c3]] W) (S.out.alloc' 26 [.int .i64 vx,.int .i64 vy] rfl hnp) fun W2 S' => ?_
      have S2 := Lib.hid S'
      clear S' hnp f0 f1 f2 f3 S hgb
      obtain ⟨pb,hpb⟩ : ∃ pb,pb = pdV ⟨al,(n : Int),mr,ed⟩ ⟨bl,(m : Int),nr,fd⟩ (vx,vy) := ⟨_,rfl⟩
      have PBH := Lib.hid hpb
      clear hpb
      go_cut [78] (fun v wx => v = .bool pb ∧ Hid (Sep w.heap.size w [eBlk np 26 [.int .i64 vx,.int .i64 vy],eMap key2 veB mp (memF ((vis).map Vs.pr)),eVs vis (.slice (some ⟨gb,off,none⟩) vis.length c),eInts al3 (.slice AU al3.length cU),eBlk h1 23 us,eBlk h2 23 vs,eBlk g1 4 (mkB n fun s => decide ((s : Int) ∈ mr)),eBlk g2 4 (mkB m fun s => decide ((s : Int) ∈ nr)),eBlk (w.heap.size + 1) 25 [.slice B1 bl.length d1,.int .i64 (m : Int),.slice B2 nr.length d2,.slice B3 fd.length d3],eBlk w.heap.size 25 [.slice A1 al.length c1,.int .i64 (n : Int),.slice A2 mr.length c2,.slice A3 ed.length c3]] wx))
      case first =>
       have x0 := ckC S2.out 0 rfl 0 rfl
       have x1 := ckC S2.out 0 rfl 1 rfl
       have r0 := HRG.out
       have r1 := HAL.out
       simp only [Vs.pr,ne_eq,Prod.mk.injEq] at r0 r1
       by_cases hx1 : vx = -1
       · have e1 : (vx == -1) = true := by simp [hx1]
         have hpb : pb = true := by rw [PBH.out,pdV,if_neg (by simpa using r1)]; simp [hx1]
         subst hpb
         clear r0 r1 hx1
         go_quiet (fail)
         go_wp2_with fail
         go_meet
         exact ⟨rfl,S2.out.draws _⟩
       · have e1 : (vx == -1) = false := by simp [hx1]
         by_cases hy1 : vy = -1
         · have e2 : (vy == -1) = true := by simp [hy1]
           have hpb : pb = true := by rw [PBH.out,pdV,if_neg (by simpa using r1)]; simp [hy1]
           subst hpb
           clear r0 r1 hx1 hy1
           go_quiet (fail)
           go_wp2_with fail
           go_meet
           exact ⟨rfl,S2.out.draws _⟩
         · have e2 : (vy == -1) = false := by simp [hy1]
           obtain ⟨i,rfl⟩ := Int.eq_ofNat_of_zero_le (show 0 ≤ vx by omega)
           obtain ⟨j,rfl⟩ := Int.eq_ofNat_of_zero_le (show 0 ≤ vy by omega)
           have hi : i < n := by omega
           have hj : j < m := by omega
           have y0 := BlkAt.cell (S2.out.get 6 rfl) i
           have y1 := BlkAt.cell (S2.out.get 7 rfl) j
           rw [mkB_get hi] at y0
           rw [mkB_get hj] at y1
           have hpb : pb = (decide ((i : Int) ∈ mr) != decide ((j : Int) ∈ nr)) := by rw [PBH.out,pdV,if_neg (by simp)]; simp [hx1,hy1]
           obtain ⟨d1',hd1⟩ : ∃ d : Bool,d = decide ((i : Int) ∈ mr) := ⟨_,rfl⟩
           obtain ⟨d2',hd2⟩ : ∃ d : Bool,d = decide ((j : Int) ∈ nr) := ⟨_,rfl⟩
           rw [← hd1] at y0 hpb
           rw [← hd2] at y1 hpb
           have PB2 := Lib.hid hpb
           clear r0 r1 hx1 hy1 hd1 hd2 hpb
           go_quiet (fail)
           go_wp2_with fail
           go_meet
           exact ⟨by rw [PB2.out]; cases d1' <;> cases d2' <;> rfl,S2.out.draws _⟩
      case rest =>
       obtain ⟨rfl,S3⟩ := hcut
       clear S2
       cases pb
       · have r0 := HRG.out
         have r1 := HAL.out
         simp only [Vs.pr,ne_eq,Prod.mk.injEq] at r0 r1
         have hpb := PBH.out
         rw [pdV,if_neg (by simpa using r1)] at hpb
         have hxn : vx ≠ -1 := fun h => by simp [h] at hpb
         have hyn : vy ≠ -1 := fun h => by simp [h] at hpb
         obtain ⟨i,rfl⟩ := Int.eq_ofNat_of_zero_le (show 0 ≤ vx by omega)
         obtain ⟨j,rfl⟩ := Int.eq_ofNat_of_zero_le (show 0 ≤ vy by omega)
         have hi : i < n := by omega
         have hj : j < m := by omega
         have SI2 := Lib.hid (SI.out.test HV0.out PBH.out.symm)
         clear r0 r1 hpb hxn hyn
         go_wp2_with fail
         go_loopw [15,104] (fun v z wx => ∃ (q : Nat) (vis' : List Vs) (ws' : List (List Int)),z = .int .i64 (q : Int) ∧ q ≤ al3.length ∧ Hid (DInv ⟨al,(n : Int),mr,ed⟩ ⟨bl,(m : Int),nr,fd⟩ (x,y) al3 (pdV ⟨al,(n : Int),mr,ed⟩ ⟨bl,(m : Int),nr,fd⟩) k q (k + 1) vis' ws' ∧ vis'[k]? = some ⟨i,j,vb,ve⟩) ∧ Hid (Sep w.heap.size w [eBlk np 26 [.int .i64 (i : Int),.int .i64 (j : Int)],eMap key2 veB mp (memF ((vis').map Vs.pr)),eVs vis' v,eInts al3 (.slice AU al3.length cU),eBlk h1 23 us,eBlk h2 23 vs,eBlk g1 4 (mkB n fun s => decide ((s : Int) ∈ mr)),eBlk g2 4 (mkB m fun s => decide ((s : Int) ∈ nr)),eBlk (w.heap.size + 1) 25 [.slice B1 bl.length d1,.int .i64 (m : Int),.slice B2 nr.length d2,.slice B3 fd.length d3],eBlk w.heap.size 25 [.slice A1 al.length c1,.int .i64 (n : Int),.slice A2 mr.length c2,.slice A3 ed.length c3]] wx)) (fun _ z _ => al3.length - (intOf z).toNat)
         case atStart => exact ⟨0,vis,ws,rfl,Nat.zero_le _,⟨SI2.out,HV0.out⟩,S3.out⟩
         case round =>
          clear S3 SI SI2
          obtain ⟨q,vis',ws',rfl,hq,SV,S⟩ := hrel
          have hvl' := LB.out _ _ _ _ _ SV.out.1
          have hkv : k < vis'.length := (List.getElem?_eq_some_iff.1 SV.out.2).1
          obtain ⟨A',c',rfl⟩ := S.out.form 2 rfl
          by_cases hlq : q < al3.length
          · have HQL := Lib.hid hlq
            have hul := HUL.out
            obtain ⟨be,oe,e,hAE,hbe,he,ce⟩ := IntsAt.at (S.out.ints 3 rfl) hlq
            subst hAE
            have HQ := Lib.hid he
            have HE0 : Hid (0 ≤ e ∧ e ≤ 1000) := by
             have := List.mem_of_getElem? he
             rw [HL3.out,mem_unionS] at this
             rcases this with g | g
             · have := RA.out.evr g; simp only [Hid]; omega
             · have := RB.out.evr g; simp only [Hid]; omega
            obtain ⟨R1,t1,hr1,_,_⟩ := (HU.out wr (HA.out.ed.below EdE.stays S.out.below)).row i hi
            obtain ⟨R2,t2,hr2,_,_⟩ := (HV.out wr (HB.out.ed.below EdE.stays S.out.below)).row j hj
            have HR1 := Lib.hid hr1
            have HR2 := Lib.hid hr2
            have HE1 : Hid (∀ V,Below w.heap.size w V → EdsAt V R1 (outOf ed i)) := fun V hb => by
             obtain ⟨R,t,g1,g2,_⟩ := (HU.out V (HA.out.ed.below EdE.stays hb)).row i hi
             rw [hr1] at g1; cases g1; exact g2
            have HE2 : Hid (∀ V,Below w.heap.size w V → EdsAt V R2 (outOf fd j)) := fun V hb => by
             obtain ⟨R,t,g1,g2,_⟩ := (HV.out V (HB.out.ed.below EdE.stays hb)).row j hj
             rw [hr2] at g1; cases g1; exact g2
            obtain ⟨tx,htx⟩ : ∃ t,t = toV (stepOf ed) (i : Int) e := ⟨_,rfl⟩
            obtain ⟨ty,hty⟩ : ∃ t,t = toV (stepOf fd) (j : Int) e := ⟨_,rfl⟩
            have CX : Hid (∀ V,Below w.heap.size w V → Calls Try.prog 68 #[.slice R1 (outOf ed i).length t1,.int .i64 e] V (Ret (.int .i64 tx) V)) := fun V hb => by rw [htx]; exact stepRow_c RA.out R1 t1 i e V (HE1.out V hb) HE0.out.1 HE0.out.2
            have CY : Hid (∀ V,Below w.heap.size w V → Calls Try.prog 68 #[.slice R2 (outOf fd j).length t2,.int .i64 e] V (Ret (.int .i64 ty) V)) := fun V hb => by rw [hty]; exact stepRow_c RB.out R2 t2 j e V (HE2.out V hb) HE0.out.1 HE0.out.2
            have TXY : Hid (stp2 ⟨al,(n : Int),mr,ed⟩ ⟨bl,(m : Int),nr,fd⟩ ((i : Int),(j : Int)) e = (tx,ty)) := by rw [htx,hty]; rfl
            clear htx hty he hr1 hr2
            go_upto_region 21 with fail
            clear ce hbe
            go_cut [23] (fun v wx => ∃ tb : Nat,v = .pointer (some ⟨tb,0,none⟩) ∧ Hid (Sep w.heap.size w [eBlk tb 26 [.int .i64 tx,.int .i64 ty],eBlk np 26 [.int .i64 (i : Int),.int .i64 (j : Int)],eMap key2 veB mp (memF ((vis').map Vs.pr)),eVs vis' (.slice A' vis'.length c'),eInts al3 (.slice (some ⟨be,oe,none⟩) al3.length cU),eBlk h1 23 us,eBlk h2 23 vs,eBlk g1 4 (mkB n fun s => decide ((s : Int) ∈ mr)),eBlk g2 4 (mkB m fun s => decide ((s : Int) ∈ nr)),eBlk (w.heap.size + 1) 25 [.slice B1 bl.length d1,.int .i64 (m : Int),.slice B2 nr.length d2,.slice B3 fd.length d3],eBlk w.heap.size 25 [.slice A1 al.length c1,.int .i64 (n : Int),.slice A2 mr.length c2,.slice A3 ed.length c3]] wx))
            case first =>
             have S7 := Lib.hid S.out.drew
             refine wp_region_held_drew (S := (fun V => Sep w.heap.size w [eBlk np 26 [.int .i64 (i : Int),.int .i64 (j : Int)],eBlk h1 23 us,eBlk h2 23 vs] V)) (by kernel_rfl) ?_ (fun hHeld => ?_)
             · exact S7.out.pick [0,4,5] (by decide)
             generalize hwz : wr.drew = w7 at *
             clear hwz
             refine tkP 0 rfl hHeld ?_
             try simp only [sx]
             refine tkP 1 rfl hHeld ?_
             try simp only [sx]
             refine tkH 2 rfl (v := ?_) (by kernel_rfl) ?_ hHeld ?_
             rotate_left
             · intro V hSw
               have x0 := ckC hSw 0 rfl 0 rfl
               have x1 := ckC hSw 0 rfl 1 rfl
               clear hSw
               first | (go_simp; done) | (go_simp; with_reducible rfl)
             try simp only [sx]
             refine tkP 3 rfl hHeld ?_
             try simp only [sx]
             refine tkH 4 rfl (v := ?_) (by kernel_rfl) ?_ hHeld ?_
             rotate_left
             · intro V hSw
               have y0 := BlkAt.cell (Sep.get (show Sep w.heap.size w _ V from hSw) 1 rfl) i
               rw [HR1.out] at y0
               clear hSw
               first | (go_simp; done) | (go_simp; with_reducible rfl)
             try simp only [sx]
             refine tkP 5 rfl hHeld ?_
             try simp only [sx]
             refine tkP 7 rfl hHeld ?_
             try simp only [sx]
             refine tkP 8 rfl hHeld ?_
             try simp only [sx]
             refine tkH 9 rfl (v := ?_) (by kernel_rfl) ?_ hHeld ?_
             rotate_left
             · intro V hSw
               have x0 := ckC hSw 0 rfl 0 rfl
               have x1 := ckC hSw 0 rfl 1 rfl
               clear hSw
               first | (go_simp; done) | (go_simp; with_reducible rfl)
             try simp only [sx]
             refine tkP 10 rfl hHeld ?_
             try simp only [sx]
             refine tkH 11 rfl (v := ?_) (by kernel_rfl) ?_ hHeld ?_
             rotate_left
             · intro V hSw
               have y1 := BlkAt.cell (Sep.get (show Sep w.heap.size w _ V from hSw) 2 rfl) j
               rw [HR2.out] at y1
               clear hSw
               first | (go_simp; done) | (go_simp; with_reducible rfl)
             try simp only [sx]
             refine tkP 12 rfl hHeld ?_
             try simp only [sx]
             refine wpAnyH_ready (rs := [6,15]) (by kernel_rfl) (by simp) ?_
             refine AllReadyH.cons rfl (fun K hK => ?_) (AllReadyH.cons rfl (fun K hK => ?_) AllReadyH.nil)
             · skip
               go_simp
               refine (CX.out w7 S7.out.below).mono ?_
               rintro e w8 ⟨rfl,hb⟩
               have S8 := Lib.hid (S7.out.next hb)
               clear hb
               refine hK.out _ _ ?_ (fun hHeld => ?_)
               · exact S8.out.pick [0,4,5] (by decide)
               clear hK K
               try simp only [sx]
               refine wpAnyH_ready (rs := [13,15]) (by kernel_rfl) (by simp) ?_
               refine AllReadyH.cons rfl (fun K hK => ?_) (AllReadyH.cons rfl (fun K hK => ?_) AllReadyH.nil)
               · skip
                 go_simp
                 refine (CY.out w8 S8.out.below).mono ?_
                 rintro e w9 ⟨rfl,hb⟩
                 have S9 := Lib.hid (S8.out.next hb)
                 clear hb
                 refine hK.out _ _ ?_ (fun hHeld => ?_)
                 · exact S9.out.pick [0,4,5] (by decide)
                 clear hK K
                 try simp only [sx]
                 refine tkP 14 rfl hHeld ?_
                 try simp only [sx]
                 refine rdH 15 rfl fun K hK => ?_
                 go_simp
                 obtain ⟨ntb,hntb⟩ : ∃ n,n = w9.heap.size := ⟨_,rfl⟩
                 obtain ⟨w10,hw10⟩ : ∃ v,v = w9.alloc (.cells #[.int .i64 0,.int .i64 0] 26) := ⟨_,rfl⟩
                 rw [← hw10,← hntb]
                 have S10 := ckA S9.out hw10 hntb
                 skip
                 clear hw10 hntb
                 refine hK.out _ _ ?_ (fun hHeld => ?_)
                 · exact S10.out.pick [1,5,6] (by decide)
                 clear hK K
                 try simp only [sx]
                 refine rdH 16 rfl fun K hK => ?_
                 have sc0 := ckC S10.out 0 rfl 0 rfl
                 have sf0 := BlkAt.free (S10.out.get 0 rfl) 0
                 have sc1 := ckC S10.out 0 rfl 1 rfl
                 have sf1 := BlkAt.free (S10.out.get 0 rfl) 1
                 try dsimp only [Au.val] at *
                 go_simp
                 obtain ⟨w11,hw11⟩ : ∃ v,v = ((w10.setCell ⟨ntb,0,none⟩ (.int .i64 tx)).setCell ⟨ntb,1,none⟩ (.int .i64 ty)) := ⟨_,rfl⟩
                 rw [← hw11]
                 have S11 : Hid (Sep w.heap.size w [eBlk ntb 26 [.int .i64 tx,.int .i64 ty],eBlk np 26 [.int .i64 (i : Int),.int .i64 (j : Int)],eMap key2 veB mp (memF ((vis').map Vs.pr)),eVs vis' (.slice A' vis'.length c'),eInts al3 (.slice (some ⟨be,oe,none⟩) al3.length cU),eBlk h1 23 us,eBlk h2 23 vs,eBlk g1 4 (mkB n fun s => decide ((s : Int) ∈ mr)),eBlk g2 4 (mkB m fun s => decide ((s : Int) ∈ nr)),eBlk (w.heap.size + 1) 25 [.slice B1 bl.length d1,.int .i64 (m : Int),.slice B2 nr.length d2,.slice B3 fd.length d3],eBlk w.heap.size 25 [.slice A1 al.length c1,.int .i64 (n : Int),.slice A2 mr.length c2,.slice A3 ed.length c3]] w11) := by rw [hw11]; exact ((S10.out.set 0 rfl 0 (.int .i64 tx)).set 0 rfl 1 (.int .i64 ty))
                 clear hw11 sc0 sf0 sc1 sf1
                 refine hK.out _ _ ?_ (fun hHeld => ?_)
                 · exact S11.out.pick [1,5,6] (by decide)
                 clear hK K
                 try simp only [sx]
                 refine wpAnyH_done (by kernel_rfl) ?_ _
                 go_wp2_with fail
                 go_meet
                 exact ⟨ntb,rfl,S11.out.pick [0,1,2,3,4,5,6,7,8,9,10] (by decide)⟩
               · skip
                 go_simp
                 obtain ⟨ntb,hntb⟩ : ∃ n,n = w8.heap.size := ⟨_,rfl⟩
                 obtain ⟨w12,hw12⟩ : ∃ v,v = w8.alloc (.cells #[.int .i64 0,.int .i64 0] 26) := ⟨_,rfl⟩
                 rw [← hw12,← hntb]
                 have S12 := ckA S8.out hw12 hntb
                 skip
                 clear hw12 hntb
                 refine hK.out _ _ ?_ (fun hHeld => ?_)
                 · exact S12.out.pick [1,5,6] (by decide)
                 clear hK K
                 try simp only [sx]
                 refine rdH 13 rfl fun K hK => ?_
                 go_simp
                 refine (CY.out w12 S12.out.below).mono ?_
                 rintro e w13 ⟨rfl,hb⟩
                 have S13 := Lib.hid (S12.out.next hb)
                 clear hb
                 refine hK.out _ _ ?_ (fun hHeld => ?_)
                 · exact S13.out.pick [1,5,6] (by decide)
                 clear hK K
                 try simp only [sx]
                 refine tkP 14 rfl hHeld ?_
                 try simp only [sx]
                 refine rdH 16 rfl fun K hK => ?_
                 have sc0 := ckC S13.out 0 rfl 0 rfl
                 have sf0 := BlkAt.free (S13.out.get 0 rfl) 0
                 have sc1 := ckC S13.out 0 rfl 1 rfl
                 have sf1 := BlkAt.free (S13.out.get 0 rfl) 1
                 try dsimp only [Au.val] at *
                 go_simp
                 obtain ⟨w14,hw14⟩ : ∃ v,v = ((w13.setCell ⟨ntb,0,none⟩ (.int .i64 tx)).setCell ⟨ntb,1,none⟩ (.int .i64 ty)) := ⟨_,rfl⟩
                 rw [← hw14]
                 have S14 : Hid (Sep w.heap.size w [eBlk ntb 26 [.int .i64 tx,.int .i64 ty],eBlk np 26 [.int .i64 (i : Int),.int .i64 (j : Int)],eMap key2 veB mp (memF ((vis').map Vs.pr)),eVs vis' (.slice A' vis'.length c'),eInts al3 (.slice (some ⟨be,oe,none⟩) al3.length cU),eBlk h1 23 us,eBlk h2 23 vs,eBlk g1 4 (mkB n fun s => decide ((s : Int) ∈ mr)),eBlk g2 4 (mkB m fun s => decide ((s : Int) ∈ nr)),eBlk (w.heap.size + 1) 25 [.slice B1 bl.length d1,.int .i64 (m : Int),.slice B2 nr.length d2,.slice B3 fd.length d3],eBlk w.heap.size 25 [.slice A1 al.length c1,.int .i64 (n : Int),.slice A2 mr.length c2,.slice A3 ed.length c3]] w14) := by rw [hw14]; exact ((S13.out.set 0 rfl 0 (.int .i64 tx)).set 0 rfl 1 (.int .i64 ty))
                 clear hw14 sc0 sf0 sc1 sf1
                 refine hK.out _ _ ?_ (fun hHeld => ?_)
                 · exact S14.out.pick [1,5,6] (by decide)
                 clear hK K
                 try simp only [sx]
                 refine wpAnyH_done (by kernel_rfl) ?_ _
                 go_wp2_with fail
                 go_meet
                 exact ⟨ntb,rfl,S14.out.pick [0,1,2,3,4,5,6,7,8,9,10] (by decide)⟩
             · skip
               go_simp
               obtain ⟨ntb,hntb⟩ : ∃ n,n = w7.heap.size := ⟨_,rfl⟩
               obtain ⟨w15,hw15⟩ : ∃ v,v = w7.alloc (.cells #[.int .i64 0,.int .i64 0] 26) := ⟨_,rfl⟩
               rw [← hw15,← hntb]
               have S15 := ckA S7.out hw15 hntb
               skip
               clear hw15 hntb
               refine hK.out _ _ ?_ (fun hHeld => ?_)
               · exact S15.out.pick [1,5,6] (by decide)
               clear hK K
               try simp only [sx]
               refine rdH 6 rfl fun K hK => ?_
               go_simp
               refine (CX.out w15 S15.out.below).mono ?_
               rintro e w16 ⟨rfl,hb⟩
               have S16 := Lib.hid (S15.out.next hb)
               clear hb
               refine hK.out _ _ ?_ (fun hHeld => ?_)
               · exact S16.out.pick [1,5,6] (by decide)
               clear hK K
               try simp only [sx]
               refine rdH 13 rfl fun K hK => ?_
               go_simp
               refine (CY.out w16 S16.out.below).mono ?_
               rintro e w17 ⟨rfl,hb⟩
               have S17 := Lib.hid (S16.out.next hb)
               clear hb
               refine hK.out _ _ ?_ (fun hHeld => ?_)
               · exact S17.out.pick [1,5,6] (by decide)
               clear hK K
               try simp only [sx]
               refine tkP 14 rfl hHeld ?_
               try simp only [sx]
               refine rdH 16 rfl fun K hK => ?_
               have sc0 := ckC S17.out 0 rfl 0 rfl
               have sf0 := BlkAt.free (S17.out.get 0 rfl) 0
               have sc1 := ckC S17.out 0 rfl 1 rfl
               have sf1 := BlkAt.free (S17.out.get 0 rfl) 1
               try dsimp only [Au.val] at *
               go_simp
               obtain ⟨w18,hw18⟩ : ∃ v,v = ((w17.setCell ⟨ntb,0,none⟩ (.int .i64 tx)).setCell ⟨ntb,1,none⟩ (.int .i64 ty)) := ⟨_,rfl⟩
               rw [← hw18]
               have S18 : Hid (Sep w.heap.size w [eBlk ntb 26 [.int .i64 tx,.int .i64 ty],eBlk np 26 [.int .i64 (i : Int),.int .i64 (j : Int)],eMap key2 veB mp (memF ((vis').map Vs.pr)),eVs vis' (.slice A' vis'.length c'),eInts al3 (.slice (some ⟨be,oe,none⟩) al3.length cU),eBlk h1 23 us,eBlk h2 23 vs,eBlk g1 4 (mkB n fun s => decide ((s : Int) ∈ mr)),eBlk g2 4 (mkB m fun s => decide ((s : Int) ∈ nr)),eBlk (w.heap.size + 1) 25 [.slice B1 bl.length d1,.int .i64 (m : Int),.slice B2 nr.length d2,.slice B3 fd.length d3],eBlk w.heap.size 25 [.slice A1 al.length c1,.int .i64 (n : Int),.slice A2 mr.length c2,.slice A3 ed.length c3]] w18) := by rw [hw18]; exact ((S17.out.set 0 rfl 0 (.int .i64 tx)).set 0 rfl 1 (.int .i64 ty))
               clear hw18 sc0 sf0 sc1 sf1
               refine hK.out _ _ ?_ (fun hHeld => ?_)
               · exact S18.out.pick [1,5,6] (by decide)
               clear hK K
               try simp only [sx]
               refine wpAnyH_done (by kernel_rfl) ?_ _
               go_wp2_with fail
               go_meet
               exact ⟨ntb,rfl,S18.out.pick [0,1,2,3,4,5,6,7,8,9,10] (by decide)⟩
            case rest =>
             obtain ⟨tb,rfl,S4⟩ := hcut
             clear S CX CY HR1 HR2 HE1 HE2
             obtain ⟨db,hdb⟩ : ∃ db : Bool,db = decide ((tx,ty) ∈ (-1,-1) :: vis'.map Vs.pr) := ⟨_,rfl⟩
             have DB := Lib.hid hdb
             go_upto_region 22 with fail
             go_cut [135] (fun v wx => v = .bool db ∧ Hid (Sep w.heap.size w [eBlk tb 26 [.int .i64 tx,.int .i64 ty],eBlk np 26 [.int .i64 (i : Int),.int .i64 (j : Int)],eMap key2 veB mp (memF ((vis').map Vs.pr)),eVs vis' (.slice A' vis'.length c'),eInts al3 (.slice (some ⟨be,oe,none⟩) al3.length cU),eBlk h1 23 us,eBlk h2 23 vs,eBlk g1 4 (mkB n fun s => decide ((s : Int) ∈ mr)),eBlk g2 4 (mkB m fun s => decide ((s : Int) ∈ nr)),eBlk (w.heap.size + 1) 25 [.slice B1 bl.length d1,.int .i64 (m : Int),.slice B2 nr.length d2,.slice B3 fd.length d3],eBlk w.heap.size 25 [.slice A1 al.length c1,.int .i64 (n : Int),.slice A2 mr.length c2,.slice A3 ed.length c3]] wx))
             case first =>
              have x0 := ckC S4.out 0 rfl 0 rfl
              have x1 := ckC S4.out 0 rfl 1 rfl
              obtain ⟨dm,hdm⟩ : ∃ d : Bool,d = decide ((tx,ty) ∈ vis'.map Vs.pr) := ⟨_,rfl⟩
              have hl : (Instr.lookup 104 (.map (some mp)) (.agg #[.int .i64 tx,.int .i64 ty]) false).run Try.prog wc = .ok (.bool dm) wc := by
               have := (MapG.look ok2 Try.underlying104 zeroB (S4.out.get 2 rfl) (tx,ty)).2
               rw [memF_getD,← hdm] at this
               exact this
              have hall : db = ((decide (tx = -1) && decide (ty = -1)) || dm) := by rw [hdb,hdm]; simp [List.mem_cons]
              have HALL := Lib.hid hall
              clear hdb hdm hall
              by_cases ht1 : tx = -1
              · have e1 : (tx == -1) = true := by simp [ht1]
                by_cases ht2 : ty = -1
                · have e2 : (ty == -1) = true := by simp [ht2]
                  have h3 : db = true := by rw [HALL.out,ht1,ht2]; simp
                  subst h3
                  clear ht1 ht2 hl
                  go_wp2_with fail
                  go_meet
                  exact ⟨rfl,S4.out⟩
                · have e2 : (ty == -1) = false := by simp [ht2]
                  have h3 : db = dm := by rw [HALL.out]; simp [ht2]
                  subst h3
                  clear ht1 ht2
                  go_wp2_with fail
                  go_meet
                  exact ⟨rfl,S4.out⟩
              · have e1 : (tx == -1) = false := by simp [ht1]
                have h3 : db = dm := by rw [HALL.out]; simp [ht1]
                subst h3
                clear ht1
                go_wp2_with fail
                go_meet
                exact ⟨rfl,S4.out⟩
             case rest =>
              obtain ⟨rfl,S5⟩ := hcut
              clear S4 hdb
              cases db
              · have NEW : Hid (¬ stp2 ⟨al,(n : Int),mr,ed⟩ ⟨bl,(m : Int),nr,fd⟩ ((i : Int),(j : Int)) e ∈ (-1,-1) :: vis'.map Vs.pr) := by rw [Hid,TXY.out]; exact of_decide_eq_false DB.out.symm
                obtain ⟨ws2,hs2⟩ := SV.out.1.push RA.out RB.out HINC.out (by omega) SV.out.2 HQ.out NEW.out
                rw [show Vs.pr ⟨i,j,vb,ve⟩ = ((i : Int),(j : Int)) from rfl,TXY.out] at hs2
                have SV2 := Lib.hid hs2
                have KP : Hid ((vis' ++ [(⟨tx,ty,k,e⟩ : Vs)])[k]? = some ⟨i,j,vb,ve⟩) := get_keep SV.out.2 _
                clear hs2
                have x0 := ckC S5.out 0 rfl 0 rfl
                have x1 := ckC S5.out 0 rfl 1 rfl
                go_wp2_with (at_mapUpdate; refine wpList_mapUpdateS rfl _ _ _ 104 26 4 rfl S5.out 2 rfl ok2 Try.underlying104 (tx,ty) true rfl rfl rfl ?_)
                intro w7 S7' _
                have S7 : Hid (Sep w.heap.size w [eBlk tb 26 [.int .i64 tx,.int .i64 ty],eBlk np 26 [.int .i64 (i : Int),.int .i64 (j : Int)],eMap key2 veB mp (memF ((vis' ++ [(⟨tx,ty,k,e⟩ : Vs)]).map Vs.pr)),eVs vis' (.slice A' vis'.length c'),eInts al3 (.slice (some ⟨be,oe,none⟩) al3.length cU),eBlk h1 23 us,eBlk h2 23 vs,eBlk g1 4 (mkB n fun s => decide ((s : Int) ∈ mr)),eBlk g2 4 (mkB m fun s => decide ((s : Int) ∈ nr)),eBlk (w.heap.size + 1) 25 [.slice B1 bl.length d1,.int .i64 (m : Int),.slice B2 nr.length d2,.slice B3 fd.length d3],eBlk w.heap.size 25 [.slice A1 al.length c1,.int .i64 (n : Int),.slice A2 mr.length c2,.slice A3 ed.length c3]] w7) := by
                 have h := S7'.mapAs 2 rfl (memF ((vis' ++ [(⟨tx,ty,k,e⟩ : Vs)]).map Vs.pr)) (fun u => by rw [List.map_append]; exact memF_snoc _ _ _)
                 exact h
                clear S7' x0 x1
                have x0 := ckC S7.out 0 rfl 0 rfl
                have x1 := ckC S7.out 0 rfl 1 rfl
                go_wp2_with (at_builtin; refine wpList_pushS rfl _ _ 103 rfl (S7.out.alloc 102 [.int .i64 tx,.int .i64 ty,.int .i64 (k : Int),.int .i64 e]) 4 rfl Try.underlying103 _ 32 plInfo rfl (by decide) rfl (⟨tx,ty,k,e⟩ : Vs) _ rfl rfl (fun j u hj => (BlkAt.cell (BlkAt.new _ _ _) j).trans hj) (vsOne _) (by omega) (by decide) ?_)
                intro A9 c9 w9 S9' _
                have S9 : Hid (Sep w.heap.size w [eBlk tb 26 [.int .i64 tx,.int .i64 ty],eBlk np 26 [.int .i64 (i : Int),.int .i64 (j : Int)],eMap key2 veB mp (memF ((vis' ++ [(⟨tx,ty,k,e⟩ : Vs)]).map Vs.pr)),eVs (vis' ++ [(⟨tx,ty,k,e⟩ : Vs)]) (.slice A9 (vis'.length + 1) c9),eInts al3 (.slice (some ⟨be,oe,none⟩) al3.length cU),eBlk h1 23 us,eBlk h2 23 vs,eBlk g1 4 (mkB n fun s => decide ((s : Int) ∈ mr)),eBlk g2 4 (mkB m fun s => decide ((s : Int) ∈ nr)),eBlk (w.heap.size + 1) 25 [.slice B1 bl.length d1,.int .i64 (m : Int),.slice B2 nr.length d2,.slice B3 fd.length d3],eBlk w.heap.size 25 [.slice A1 al.length c1,.int .i64 (n : Int),.slice A2 mr.length c2,.slice A3 ed.length c3]] w9) := by
                 have h := S9'.drop1
                 rw [List.map_append]
                 exact h
                clear S9' x0 x1
                go_wp2_with fail
                go_roundw
                case rel => exact ⟨q + 1,vis' ++ [(⟨tx,ty,(k : Int),e⟩ : Vs)],ws2,by go_num,HQL.out,⟨SV2.out,KP.out⟩,S9.out.drop1⟩
                case measure => have := HQL.out; simp [intOf]; omega
              · have OLD : Hid (stp2 ⟨al,(n : Int),mr,ed⟩ ⟨bl,(m : Int),nr,fd⟩ ((i : Int),(j : Int)) e ∈ (-1,-1) :: vis'.map Vs.pr) := by rw [Hid,TXY.out]; exact of_decide_eq_true DB.out.symm
                have SV2 := Lib.hid (SV.out.1.skip HINC.out SV.out.2 HQ.out OLD.out)
                go_wp2
                go_roundw
                case rel => exact ⟨q + 1,vis',ws',by go_num,HQL.out,⟨SV2.out,SV.out.2⟩,S5.out.drop1⟩
                case measure => have := HQL.out; simp [intOf]; omega
          · obtain rfl : q = al3.length := by omega
            have SN := Lib.hid SV.out.1.next
            have hkv : k < vis'.length := (List.getElem?_eq_some_iff.1 SV.out.2).1
            go_wp2
            go_roundw
            case rel => exact ⟨k + 1,vis',ws',by go_num,by omega,SN.out,S.out.pick [1,2,3,4,5,6,7,8,9] (by decide)⟩
            case measure => simp [intOf]; omega
       · have hv' : (vis.map Vs.pr)[k]? = some (vx,vy) := by rw [List.getElem?_map,HV0.out]; rfl
         obtain ⟨wk,hwk⟩ := SI.out.bfs.word hv'
         have LW : Hid (LeastW (LeadsTo (stp2 ⟨al,(n : Int),mr,ed⟩ ⟨bl,(m : Int),nr,fd⟩) (x,y) (unionS al bl) (fun q => pdV ⟨al,(n : Int),mr,ed⟩ ⟨bl,(m : Int),nr,fd⟩ q = true)) wk) := by rw [← HL3.out]; exact SI.out.bfs.least (dead2_step RA.out RB.out) (P := fun q => pdV ⟨al,(n : Int),mr,ed⟩ ⟨bl,(m : Int),nr,fd⟩ q = true) (fun s hs => by unfold dead2 at hs; subst hs; simp [pdV_dead]) (fun j v hj hv => by rw [SI.out.no j v hj hv]; simp) hv' hwk PBH.out.symm
         have WK := Lib.hid hwk
         have LK := Lib.hid SI.out.lk
         have ZW := Lib.hid SI.out.bfs.zw
         have SP : Hid (Sep w.heap.size w [eVs vis (.slice (some ⟨gb,off,none⟩) vis.length c)] wc) := S3.out.pick [2] (by decide)
         clear hv' hwk S3 HRG HAL
         go_wp2_with fail
         go_loopw [19,20] (fun wv kv wx => ∃ (acc : List Int) (t : Nat) (u : List Int),kv = .int .i64 (t : Int) ∧ t < vis.length ∧ acc.length + t ≤ k ∧ Hid (ws[t]? = some u ∧ u ++ acc.reverse = wk) ∧ Hid (Sep w.heap.size w [eInts acc wv,eVs vis (.slice (some ⟨gb,off,none⟩) vis.length c)] wx)) (fun _ kv _ => (intOf kv).toNat)
         case atStart => exact ⟨[],k,wk,rfl,hlz,by simp,⟨WK.out,by simp⟩,SP.out.nilOwn encI 1 3⟩
         case round =>
          clear SP
          obtain ⟨acc,t,u,rfl,ht,hat,U,S4⟩ := hrel
          obtain ⟨vt,hvt⟩ : ∃ vt,vis[t]? = some vt := ⟨_,List.getElem?_eq_getElem ht⟩
          obtain ⟨gb',off',hA',hgb',z0,z1,z2,z3⟩ := VsE.get (Own.reads (fun _ => rfl) (S4.out.get 1 rfl)) hvt
          cases hA'
          have hl := LK.out.2 t (vt.b,vt.e) (by rw [List.getElem?_map,hvt]; rfl)
          obtain ⟨tx,ty,tb,te⟩ := vt
          dsimp only at z0 z1 z2 z3 hl
          have HVT := Lib.hid hvt
          clear hvt
          by_cases h0 : t = 0
          · subst h0
            have htb : tb = -1 := hl.1 rfl
            subst htb
            have E : Hid (acc.reverse = wk) := by
             have := U.out.1
             rw [ZW.out] at this
             cases this
             exact U.out.2
            clear hl
            have W3 := Lib.hid (S4.out.ownAt 0 rfl)
            rcases W3.out.2 with ⟨hu8,hacc⟩ | ⟨g3,cap3,cur3,hu8,hg3,_⟩
            · have HAC : Hid (acc = []) := List.length_eq_zero_iff.1 hacc
              subst hu8
              clear hacc
              go_wp2_with fail
              refine (reverse_nil_c _).mono ?_
              rintro e w4 ⟨⟨u,rfl⟩,hb⟩
              have R4 := Lib.hid (S4.out.next hb)
              clear hb
              go_wp2
              refine bodyPost_ret (v := .tuple #[.slice none 0 0,.bool true]) (by simp [results,Try.results41,go_sem]) rfl ?_
              refine ⟨none,0,[],true,rfl,SlAt.nil,R4.out.below,.inl ⟨rfl,?_⟩⟩
              have := E.out
              rw [HAC.out] at this
              simp only [List.reverse_nil] at this
              rw [this]; exact LW.out
            · subst hu8
              have RC := Lib.hid (reverse_c w.heap.size acc g3 cap3 wr W3.out hg3 (by omega))
              clear hg3
              go_wp2_with fail
              refine RC.out.mono ?_
              rintro e w4 ⟨⟨u,rfl⟩,ho,hb⟩
              have R4 := Lib.hid (S4.out.below.trans hb)
              have O4 := Lib.hid ho.out
              clear hb ho
              go_wp2
              refine bodyPost_ret (v := .tuple #[.slice (some ⟨g3,0,none⟩) acc.length cap3,.bool true]) (by simp [results,Try.results41,go_sem]) rfl ?_
              refine ⟨some ⟨g3,0,none⟩,cap3,wk,true,by rw [← E.out,List.length_reverse],?_,R4.out,.inl ⟨rfl,LW.out⟩⟩
              have := O4.out
              rw [← List.length_reverse] at this
              rw [← E.out]
              exact OwnI.ints this
          · obtain ⟨t',u',wt,e1,e2,e3,e4,e5⟩ := hl.2 (by omega)
            subst e1
            have hne : ((t' : Int) != -1) = true := by simp
            have U2 : Hid (ws[t']? = some u' ∧ u' ++ (acc ++ [te]).reverse = wk) := by
             refine ⟨e3,?_⟩
             have h1 := U.out.1
             rw [e4] at h1
             cases h1
             rw [← U.out.2,e5]
             simp
            clear hl e3 e4 e5
            obtain ⟨AW,cW,rfl⟩ := S4.out.form 0 rfl
            go_wp2_with (at_builtin; refine wpList_pushS rfl _ _ 22 rfl (S4.out.alloc 3 [.int .i64 te]) 1 rfl Try.underlying22 _ 8 intInfo rfl (by decide) rfl te _ rfl rfl (one_cell _ _ [_] _ rfl) (encI_one _) (by omega) (by decide) ?_)
            intro A' c' w4 S9 _
            have S5 : Hid (Sep w.heap.size w [eInts (acc ++ [te]) (.slice A' (acc.length + 1) c'),eVs vis (.slice (some ⟨gb,off,none⟩) vis.length c)] w4) := S9.drop1
            obtain ⟨gx,ox,hAx,_,_,_,k2,_⟩ := VsE.get (Own.reads (fun _ => rfl) (S5.out.get 1 rfl)) HVT.out
            cases hAx
            dsimp only at k2
            clear S9
            go_wp2_with fail
            go_roundw
            case rel => exact ⟨acc ++ [te],t',u',rfl,by omega,by simp; omega,U2.out,S5.out⟩
            case measure => simp [intOf]; omega
    · obtain rfl : k = vis.length := by omega
      go_wp2
      refine bodyPost_ret (v := .tuple #[.slice none 0 0,.bool false]) (by simp [results,Try.results41,go_sem]) rfl ?_
      refine ⟨none,0,[],false,rfl,SlAt.nil,S.out.below,.inr ⟨rfl,rfl,?_⟩⟩
      rw [← HL3.out]
      exact SI.out.bfs.none_ (dead2_step RA.out RB.out) (P := fun q => pdV ⟨al,(n : Int),mr,ed⟩ ⟨bl,(m : Int),nr,fd⟩ q = true) (fun s hs => by unfold dead2 at hs; subst hs; simp [pdV_dead]) (by simp) (fun j v hv => by
       have hj := (List.getElem?_eq_some_iff.1 hv).1
       rw [SI.out.no j v (by simpa using hj) hv]; simp)
end Go.Proofs.Ytjjifefanjnghaa
