/-
  minimal.step: the state to which the edge by an event leads, or -1.
  slices: Clone and Equal of ints.
  slices.Equal of edges; automaton.Equal.
  Plain: where the edges of a state begin; the states from which others are reached.
  minimal.distinguish of right automata.
  automaton.Check: which error.
  minimal.Minimize of a right automaton.
  minimal.Minimize of a right automaton, with the classes of its states.
  minimal: Classes, Minimize, IsMinimal of any automaton: results and errors.
  minimal.consistent.
  slices.ContainsFunc of ints; minimal.Merge of any automaton.
  The library's functions that take a function value, over edges and over numbers.
  The edges of each state, as a slice of slices.
  The numbers that are kept or removed: how they lie in memory, and the two looks at them.
  The checker's look at a removal: its function values.
  The checker's looks at a kept state and at a removal: their function values.
  The checker's look at a kept state.
-/
import Derived.Test.YtccfcaejlohahaaBas04
import Derived.Test.YtccfcaejlohahaaBas03
import Derived.Test.YtccfcaejlohahaaBas01
import Derived.BigQuiet
import Derived.Deep.RegionLaw
import Derived.Test.YtccfcaejlohahaaBas02
import Derived.Shelf.Abstract
set_option linter.unusedSimpArgs false
set_option linter.unusedVariables false
namespace Go.Proofs.Ytccfcaejlohahaa
open Go.RowKit
set_option maxRecDepth 100000
def EvUp (l : List Ed) : Prop := l.Pairwise fun x y => x.ev ≤ y.ev
def DistV (F : FuncId) : Prop := ∀ (x : Ed) (s : Int) (w : World),-1000000 ≤ x.ev → x.ev ≤ 1000000 → -1000000 ≤ s → s ≤ 1000000 → Calls Try.prog F #[.agg #[.int .i64 x.src,.int .i64 x.ev,.int .i64 x.dst],.int .i64 s] w (Ret (.int .i64 (x.ev - s)) w)
def FindsV (l : List Ed) (s : Int) (w : World) (e : Ending) (w' : World) : Prop := ∃ (p : Nat) (r : Bool),e = .returned (.tuple #[.int .i64 (p : Int),.bool r]) ∧ p ≤ l.length ∧ Hid ((∀ t y,t < p → l[t]? = some y → y.ev < s) ∧ (∀ t y,p ≤ t → l[t]? = some y → s ≤ y.ev)) ∧ Hid ((r = true ∧ ∃ x,l[p]? = some x ∧ x.ev = s) ∨ (r = false ∧ ∀ x,l[p]? = some x → x.ev ≠ s)) ∧ Below w.heap.size w w'
def stepL (l : List Ed) (e : Int) : Int := ((l.find? fun x => decide (x.ev = e)).map (·.dst)).getD (-1)
set_option maxHeartbeats 400000 in
theorem equalI_c (A1 A2 : Option Addr) (c1 c2 : Nat) (l1 l2 : List Int) (w : World) (h1 : IntsAt w A1 l1) (h2 : IntsAt w A2 l2) (n1 : l1.length ≤ 140737488355328) (n2 : l2.length ≤ 140737488355328) :
 Calls Try.prog 29 #[.slice A1 l1.length c1,.slice A2 l2.length c2] w (Tells (l1 = l2) w) := by
 have H1 := Lib.hid h1
 have H2 := Lib.hid h2
 clear h1 h2
 by_cases hl : l1.length = l2.length
 · go_enter Try.func29,Try.ntmps29
   have HL := Lib.hid hl
   rw [← hl]
   clear hl n2
   go_wp2
   go_loopw [13] (fun i wr => ∃ k : Nat,k ≤ l1.length ∧ i = .int .i64 k ∧ Hid (Below w.heap.size w wr) ∧ Hid (l1.take k = l2.take k)) (fun i _ => l1.length - (intOf i).toNat)
   case atStart => exact ⟨0,by omega,rfl,Below.refl _ _,rfl⟩
   case round =>
    obtain ⟨k,hk,rfl,BW,HN⟩ := hrel
    by_cases hlt : k < l1.length
    · obtain ⟨b,off,x,rfl,hb,hx,e0⟩ := IntsAt.at (H1.out.below IntE.stays BW.out) hlt
      obtain ⟨b2,off2,y,rfl,hb2,hy,g0⟩ := IntsAt.at (H2.out.below IntE.stays BW.out) (HL.out ▸ hlt)
      have HX := Lib.hid hx
      have HY := Lib.hid hy
      clear hx hy
      by_cases hxy : x = y
      · subst hxy
        go_wp2_with fail
        go_quiet (fail)
        go_wp2
        go_roundw
        case rel => exact ⟨k + 1,by omega,by go_num,BW.out.draws _,Lib.hid (by rw [List.take_add_one,List.take_add_one,HN.out,HX.out,HY.out])⟩
        case measure => simp [intOf]; omega
      · have hne : (x == y) = false := by simpa using hxy
        go_wp2_with fail
        go_quiet (fail)
        go_wp2
        go_ret
        exact Tells.no (fun h => by subst h; have := HX.out; rw [HY.out] at this; cases this; exact hxy rfl) (BW.out.draws _)
    · obtain rfl : k = l1.length := by omega
      go_wp2
      go_ret
      exact Tells.yes (by have := HN.out; rw [List.take_length,HL.out,List.take_length] at this; exact this) BW.out
 · have hne : ((l1.length : Int) == (l2.length : Int)) = false := by rw [beq_eq_false_iff_ne]; omega
   go_enter Try.func29,Try.ntmps29
   go_wp2
   go_ret
   exact Tells.no (fun h => hl (by rw [h])) (Below.refl _ _)
set_option maxRecDepth 100000 in
set_option maxHeartbeats 400000 in
theorem cloneI_c (A : Option Addr) (c : Nat) (l : List Int) (w : World) (h : IntsAt w A l) (n1 : l.length ≤ 1048576) (hn : A = none → l = []) :
 Calls Try.prog 77 #[.slice A l.length c] w (Gives l w) := by
 have q : ∀ (w : World),(binOp .eql 36 (.slice A l.length c) (.slice none 0 0)).run Try.prog w = .ok (.bool A.isNone) w := fun w => Lib.run_eql_slice_nil w _ _ A l.length c 0 0 Try.underlying36
 cases A with
 | none =>
   obtain rfl := hn rfl
   simp only [Option.isNone_none,List.length_nil] at q ⊢
   clear h hn
   go_enter Try.func77,Try.ntmps77
   go_wp2
   go_ret
   exact ⟨none,0,rfl,⟨none,0,rfl,.inl rfl⟩,Below.refl _ _⟩
 | some a =>
   simp only [Option.isNone_some] at q
   have H := Lib.hid h
   clear h hn
   go_enter Try.func77,Try.ntmps77
   have hown : (w.alloc (.cells #[] 3)).ownsRow w.heap.size 3 1 (.slice (some ⟨w.heap.size,0,none⟩) 0 0) 0 [] := ⟨rfl,.inr ⟨w.heap.size,0,#[],rfl,Nat.le_refl _,heap_alloc_new w _,Nat.le_refl _,by simp,rfl,rfl⟩⟩
   obtain ⟨i0,hi0,hz0,hz1,hz2⟩ := info_parts (P := Try.prog) (e := 3) (z := .int .i64 0) (size := 1) (bytes := 8) (by kernel_rfl)
   go_wp2_with (at_builtin; refine wpList_append_own_at _ rfl _ _ 36 rfl w.heap.size 3 i0 (.int .i64 0) 1 8 Try.underlying36 hi0 hz0 hz1 hz2 rfl (by decide) _ _ _ rfl hown a l.length c (l.map (Value.int .i64)) rfl (by simp) (IntsAt.cells (H.out.below IntE.stays (Below.new _ _))) (by simp [Value.oneCell']) (by simp only [maxLen]; omega) (by omega) (by simp) ?_; intro v1 w1 ho1 hg1 _ hv1)
   obtain ⟨A1,c1,rfl⟩ := own_form ho1
   simp only [Nat.zero_add,List.nil_append] at ho1 ⊢
   go_wp2
   refine bodyPost_ret (v := .slice A1 l.length c1) (by simp [results,Try.results77,go_sem]) rfl ?_
   exact ⟨A1,c1,rfl,Lib.hid (OwnInts.of_own ho1),(Below.new w _).grown hg1 (by simp) (fun j hj => by cases hj; simp)⟩

section

def cntS (l : List Ed) (j : Nat) : Nat := (l.filter fun x => decide (x.src + 1 = (j : Int))).length
def fstV (l : List Ed) (j : Nat) : Nat := (l.filter fun x => decide (x.src < (j : Int))).length
def SrcUp (l : List Ed) : Prop := l.Pairwise fun x y => x.src ≤ y.src
def kth (a : Au) (keep : Int → Bool) (v : Int) (t : Nat) : Nat := (((outOf a.ed v.toNat).take t).filter fun x => keep x.dst).length
def predsOf (l : List Ed) (s : Nat) : List Int := (l.filter fun x => decide (x.dst = (s : Int))).map (·.src)
theorem predsOf_snoc (l : List Ed) (x : Ed) (s : Nat) : predsOf (l ++ [x]) s = if x.dst = (s : Int) then predsOf l s ++ [x.src] else predsOf l s := by
 unfold predsOf
 rw [List.filter_append,List.map_append]
 by_cases h : x.dst = (s : Int) <;> simp [h]
theorem mem_predsOf {l : List Ed} {s : Nat} {p : Int} : p ∈ predsOf l s ↔ ∃ x,x ∈ l ∧ x.dst = (s : Int) ∧ x.src = p := by
 unfold predsOf
 simp only [List.mem_map,List.mem_filter,decide_eq_true_eq]
 constructor
 · rintro ⟨x,⟨h1,h2⟩,h3⟩; exact ⟨x,h1,h2,h3⟩
 · rintro ⟨x,h1,h2,h3⟩; exact ⟨x,⟨h1,h2⟩,h3⟩
structure Bwd (a : Au) (N : Nat) (tq fs : List Int) (d : Nat → Int) (h k : Nat) : Prop where
 mem : ∀ s : Nat,s < N → (0 ≤ d s ↔ (s : Int) ∈ fs)
 le : ∀ (j : Nat) v,fs[j]? = some v → d v.toNat ≤ j
 nd : fs.Nodup
 rg : ∀ v,v ∈ fs → 0 ≤ v ∧ v < N
 snd : ∀ v,v ∈ fs → ∃ w,runV a.ed v w ∈ tq
 tgt : ∀ v,v ∈ tq → v ∈ fs
 cl : ∀ (j q : Nat) v p,fs[j]? = some v → (predsOf a.ed v.toNat)[q]? = some p → (j < h ∨ j = h ∧ q < k) → p ∈ fs
section
variable {a : Au} {N h k : Nat} {tq fs : List Int} {d : Nat → Int}
theorem Bwd.len (B : Bwd a N tq fs d h k) : fs.length ≤ N := by
 have := sub_len (fs.map Int.toNat) (List.range N) (by
  rw [List.nodup_iff_pairwise_ne,List.pairwise_map]
  have hp := List.nodup_iff_pairwise_ne.1 B.nd
  refine (List.Pairwise.imp_of_mem ?_ hp)
  intro x y hx hy hxy
  have := B.rg x hx; have := B.rg y hy
  omega) (fun x hx => by
  obtain ⟨v,hv,rfl⟩ := List.mem_map.1 hx
  have := B.rg v hv
  simp; omega)
 simpa using this
theorem Bwd.next (B : Bwd a N tq fs d h k) {v : Int} (hv : fs[h]? = some v) (hk : (predsOf a.ed v.toNat).length ≤ k) : Bwd a N tq fs d (h + 1) 0 :=
 ⟨B.mem,B.le,B.nd,B.rg,B.snd,B.tgt,fun j q u p hu hp hc => by
  by_cases g : j < h
  · exact B.cl j q u p hu hp (.inl g)
  · obtain rfl : j = h := by omega
    rw [hv] at hu; cases hu
    have := (List.getElem?_eq_some_iff.1 hp).1
    exact B.cl j q v p hv hp (.inr ⟨rfl,by omega⟩)⟩
theorem Bwd.old (B : Bwd a N tq fs d h k) {v p : Int} (hv : fs[h]? = some v) (hp : (predsOf a.ed v.toNat)[k]? = some p) (hm : p ∈ fs) : Bwd a N tq fs d h (k + 1) :=
 ⟨B.mem,B.le,B.nd,B.rg,B.snd,B.tgt,fun j q u p' hu hp' hc => by
  by_cases g : j < h ∨ j = h ∧ q < k
  · exact B.cl j q u p' hu hp' g
  · obtain ⟨rfl,rfl⟩ : j = h ∧ q = k := by omega
    rw [hv] at hu; cases hu
    rw [hp] at hp'; cases hp'
    exact hm⟩
theorem Bwd.new (hr : a.Right) (hN : a.n = N) (B : Bwd a N tq fs d h k) {v p : Int} (hv : fs[h]? = some v) (hp : (predsOf a.ed v.toNat)[k]? = some p) (hm : ¬ p ∈ fs) :
 Bwd a N tq (fs ++ [p]) (fun s => if s = p.toNat then d v.toNat + 1 else d s) h (k + 1) := by
 have hhl := (List.getElem?_eq_some_iff.1 hv).1
 have hvm := List.mem_of_getElem? hv
 have hvr := B.rg v hvm
 obtain ⟨x,hx,x1,x2⟩ := mem_predsOf.1 (List.mem_of_getElem? hp)
 have hn := edge_next hr hx
 have hp0 : 0 ≤ p ∧ p < N := by rw [← x2]; omega
 have hd0 : 0 ≤ d v.toNat := (B.mem v.toNat (by omega)).2 (by rw [Int.toNat_of_nonneg hvr.1]; exact hvm)
 refine ⟨fun s hs => ?_,fun j u hu => ?_,?_,fun u hu => ?_,fun u hu => ?_,fun u hu => List.mem_append_left _ (B.tgt u hu),fun j q u p' hu hp' hc => ?_⟩
 · rw [List.mem_append,List.mem_singleton]
   by_cases e : s = p.toNat
   · rw [if_pos e]
     exact ⟨fun _ => .inr (by omega),fun _ => by omega⟩
   · rw [if_neg e,B.mem s hs]
     exact ⟨.inl,fun g => g.elim id fun g => by omega⟩
 · rcases getElem?_snoc hu with g | ⟨g,rfl⟩
   · have h1 := B.le j u g
     have h2 := B.rg u (List.mem_of_getElem? g)
     have : u ≠ p := fun e => hm (by rw [← e]; exact List.mem_of_getElem? g)
     rw [if_neg (by omega)]; exact h1
   · rw [if_pos rfl]
     have h1 := B.le h v hv
     omega
 · rw [List.nodup_append]
   exact ⟨B.nd,by simp,fun x hx y hy => by rw [List.mem_singleton.1 hy]; rintro rfl; exact hm hx⟩
 · rcases List.mem_append.1 hu with g | g
   · exact B.rg u g
   · rw [List.mem_singleton.1 g]; exact hp0
 · rcases List.mem_append.1 hu with g | g
   · exact B.snd u g
   · rw [List.mem_singleton.1 g]
     obtain ⟨w,hw⟩ := B.snd v hvm
     refine ⟨x.ev :: w,?_⟩
     simp only [runV,hp0.1,if_true]
     rw [← x2,hn.1,x1,Int.toNat_of_nonneg hvr.1]
     exact hw
 · rcases getElem?_snoc hu with g | ⟨g,rfl⟩
   · by_cases c : j < h ∨ j = h ∧ q < k
     · exact List.mem_append_left _ (B.cl j q u p' g hp' c)
     · obtain ⟨rfl,rfl⟩ : j = h ∧ q = k := by omega
       rw [hv] at g; cases g
       rw [hp] at hp'; cases hp'
       simp
   · omega
theorem Bwd.start (hnd : tq.Nodup) (hrg : ∀ v,v ∈ tq → 0 ≤ v ∧ v < N) : Bwd a N tq tq (fun s => if (s : Int) ∈ tq then 0 else -1) 0 0 :=
 ⟨fun s _ => by by_cases g : (s : Int) ∈ tq <;> simp [g],fun j v hv => by
  have := hrg v (List.mem_of_getElem? hv)
  rw [Int.toNat_of_nonneg this.1,if_pos (List.mem_of_getElem? hv)]; omega,hnd,hrg,fun v hv => ⟨[],hv⟩,fun _ h => h,fun j q v p _ _ h => by omega⟩
theorem Bwd.fin (hr : a.Right) (hN : a.n = N) (hto : ∀ v,v ∈ tq → 0 ≤ v) (B : Bwd a N tq fs d fs.length k) {s : Nat} (hs : s < N) : 0 ≤ d s ↔ ∃ w,runV a.ed s w ∈ tq := by
 rw [B.mem s hs]
 constructor
 · exact B.snd _
 · rintro ⟨w,hw⟩
   have key : ∀ (w : List Int) (v : Int),0 ≤ v → runV a.ed v w ∈ tq → v ∈ fs := by
    intro w
    induction w with
    | nil => intro v _ h; exact B.tgt v h
    | cons e r ih =>
      intro v hv h
      simp only [runV,hv,if_true] at h
      rcases hr.next_cases v e with g | ⟨g0,g1,x,hx,x1,x2,x3⟩
      · rw [g,runV_neg _ (by omega)] at h
        have := hto _ h; omega
      · have hu := ih _ g0 h
        obtain ⟨j,hj,hju⟩ := List.mem_iff_getElem.1 hu
        have hpm : v ∈ predsOf a.ed (nextV a.ed v e).toNat := mem_predsOf.2 ⟨x,hx,by rw [x3,Int.toNat_of_nonneg g0],x1⟩
        obtain ⟨q,hq,hqv⟩ := List.mem_iff_getElem.1 hpm
        exact B.cl j q _ v (by rw [List.getElem?_eq_getElem hj,hju]) (by rw [List.getElem?_eq_getElem hq,hqv]) (.inl hj)
   exact key w s (Int.natCast_nonneg _) hw
end
end
def pdV (a b : Au) (v : Int × Int) : Bool := if v = (-1,-1) then false else decide (v.1 = -1) || decide (v.2 = -1) || (decide (v.1 ∈ a.mr) != decide (v.2 ∈ b.mr))
def GivesD (a b : Au) (x y : Int) (w : World) (e : Ending) (w' : World) : Prop := ∃ (A : Option Addr) (c : Nat) (l : List Int) (f : Bool),e = .returned (.tuple #[.slice A l.length c,.bool f]) ∧ Hid (IntsAt w' A l) ∧ Below w.heap.size w w' ∧
 Hid (f = true ∧ LeastW (LeadsTo (stp2 a b) (x,y) (unionS a.al b.al) (fun q => pdV a b q = true)) l ∨ f = false ∧ l = [] ∧ ∀ u,¬ LeadsTo (stp2 a b) (x,y) (unionS a.al b.al) (fun q => pdV a b q = true) u)
theorem EvUp.out {a : Au} (hr : a.Right) (s : Nat) : EvUp (outOf a.ed s) := by
 have h := outOf_rises hr s
 exact List.pairwise_iff_getElem.2 fun i j hi hj hij => Int.le_of_lt (h i j _ _ hij (List.getElem?_eq_getElem hi) (List.getElem?_eq_getElem hj))
def ErrsX (Q : Int → Prop) (w : World) (e : Ending) (w' : World) : Prop := ∃ r : Int,e = .returned (.int .i64 r) ∧ Q r ∧ w = w'
def ErrsXB (Q : Int → Prop) (w : World) (e : Ending) (w' : World) : Prop := ∃ r : Int,e = .returned (.int .i64 r) ∧ Q r ∧ Below w.heap.size w w'
def SetErr (l : List Int) (n r : Int) : Prop := (r = 0 ∧ setOk l n l.length) ∨ ∃ (k : Nat) (x : Int),k < l.length ∧ setOk l n k ∧ l[k]? = some x ∧ ((r = 2 ∧ (x < 0 ∨ n ≤ x)) ∨ (r = 5 ∧ 0 ≤ x ∧ x < n ∧ 0 < k ∧ ∃ y,l[k - 1]? = some y ∧ x ≤ y))
theorem setOk.less {l : List Int} {n : Int} {j k : Nat} (h : setOk l n k) (hj : j ≤ k) : setOk l n j := fun i x hi => h i x (by omega)
theorem SetErr.bad {l : List Int} {n r : Int} (h : SetErr l n r) (k : Nat) (hk : k ≤ l.length) (hr : ¬ setOk l n k) : r ≠ 0 := by
 rintro rfl
 rcases h with ⟨_,h⟩ | ⟨_,_,_,_,_,⟨h,_⟩ | ⟨h,_⟩⟩
 · exact hr (h.less hk)
 · cases h
 · cases h
theorem SetErr.zero {l : List Int} {n r : Int} (h : SetErr l n r) : r = 0 ↔ setOk l n l.length := by
 constructor
 · rintro rfl
   rcases h with ⟨_,h⟩ | ⟨_,_,_,_,_,⟨h,_⟩ | ⟨h,_⟩⟩
   · exact h
   · cases h
   · cases h
 · intro hs
   rcases h with ⟨h,_⟩ | ⟨k,x,hk,_,hx,⟨_,h⟩ | ⟨_,_,_,h0,y,hy,h⟩⟩
   · exact h
   · have := hs k x hk hx; omega
   · have := (hs k x hk hx).2.2 y h0 hy; omega
theorem SetErr.uniq {l : List Int} {n r q : Int} (h : SetErr l n r) (g : SetErr l n q) : r = q := by
 have hz := h.zero
 have gz := g.zero
 by_cases h0 : r = 0
 · rw [h0,gz.2 (hz.1 h0)]
 have g0 : q ≠ 0 := fun e => h0 (hz.2 (gz.1 e))
 rcases h with ⟨e,_⟩ | ⟨k,x,hk,hok,hx,hd⟩
 · exact absurd e h0
 rcases g with ⟨e,_⟩ | ⟨j,y,hj,gok,gy,gd⟩
 · exact absurd e g0
 have e : k = j := by
  rcases Nat.lt_trichotomy k j with c | c | c
  · have := gok k x c hx
    rcases hd with ⟨_,hd⟩ | ⟨_,_,_,p0,z,hz,hd⟩
    · omega
    · have := this.2.2 z p0 hz; omega
  · exact c
  · have := hok j y c gy
    rcases gd with ⟨_,gd⟩ | ⟨_,_,_,p0,z,hz,gd⟩
    · omega
    · have := this.2.2 z p0 hz; omega
 subst e
 rw [hx] at gy; cases gy
 rcases hd with ⟨rfl,_⟩ | ⟨rfl,_⟩ <;> rcases gd with ⟨rfl,_⟩ | ⟨rfl,_⟩ <;> first | rfl | (exfalso; omega)
def EdErr (a : Au) (r : Int) : Prop := (r = 0 ∧ ∀ i,i < a.ed.length → edOk a i) ∨ ∃ (k : Nat) (x : Ed),k < a.ed.length ∧ (∀ i,i < k → edOk a i) ∧ a.ed[k]? = some x ∧
 ((r = 2 ∧ ¬ (0 ≤ x.src ∧ x.src < a.n ∧ 0 ≤ x.dst ∧ x.dst < a.n)) ∨ (r = 9 ∧ (0 ≤ x.src ∧ x.src < a.n ∧ 0 ≤ x.dst ∧ x.dst < a.n) ∧ ¬ x.ev ∈ a.al) ∨
  (r = 5 ∧ (0 ≤ x.src ∧ x.src < a.n ∧ 0 ≤ x.dst ∧ x.dst < a.n) ∧ x.ev ∈ a.al ∧ 0 < k ∧ ∃ y,a.ed[k - 1]? = some y ∧ ¬ (y.src < x.src ∨ y.src = x.src ∧ y.ev < x.ev)))
theorem EdErr.not {a : Au} {k : Nat} {x : Ed} {r : Int} (hx : a.ed[k]? = some x) (h : (r = 2 ∧ ¬ (0 ≤ x.src ∧ x.src < a.n ∧ 0 ≤ x.dst ∧ x.dst < a.n)) ∨ (r = 9 ∧ (0 ≤ x.src ∧ x.src < a.n ∧ 0 ≤ x.dst ∧ x.dst < a.n) ∧ ¬ x.ev ∈ a.al) ∨
   (r = 5 ∧ (0 ≤ x.src ∧ x.src < a.n ∧ 0 ≤ x.dst ∧ x.dst < a.n) ∧ x.ev ∈ a.al ∧ 0 < k ∧ ∃ y,a.ed[k - 1]? = some y ∧ ¬ (y.src < x.src ∨ y.src = x.src ∧ y.ev < x.ev))) : ¬ edOk a k := fun g => by
 have g1 := g x hx
 rcases h with ⟨_,h⟩ | ⟨_,_,h⟩ | ⟨_,_,_,p0,y,hy,h⟩
 · exact h ⟨g1.1,g1.2.1,g1.2.2.1,g1.2.2.2.1⟩
 · exact h g1.2.2.2.2.1
 · exact h (g1.2.2.2.2.2 y p0 hy)
theorem EdErr.zero {a : Au} {r : Int} (h : EdErr a r) : r = 0 ↔ ∀ i,i < a.ed.length → edOk a i := by
 rcases h with ⟨h,g⟩ | ⟨k,x,hk,_,hx,hd⟩
 · exact ⟨fun _ => g,fun _ => h⟩
 · have hn := EdErr.not hx hd
   constructor
   · rintro rfl
     rcases hd with ⟨h,_⟩ | ⟨h,_⟩ | ⟨h,_⟩ <;> cases h
   · exact fun h => absurd (h k hk) hn
theorem EdErr.uniq {a : Au} {r q : Int} (h : EdErr a r) (g : EdErr a q) : r = q := by
 have hz := h.zero
 have gz := g.zero
 by_cases h0 : r = 0
 · rw [h0,gz.2 (hz.1 h0)]
 have g0 : q ≠ 0 := fun e => h0 (hz.2 (gz.1 e))
 rcases h with ⟨e,_⟩ | ⟨k,x,hk,hok,hx,hd⟩
 · exact absurd e h0
 rcases g with ⟨e,_⟩ | ⟨j,y,hj,gok,gy,gd⟩
 · exact absurd e g0
 have hn := EdErr.not hx hd
 have gn := EdErr.not gy gd
 have e : k = j := by
  rcases Nat.lt_trichotomy k j with c | c | c
  · exact absurd (gok k c) hn
  · exact c
  · exact absurd (hok j c) gn
 subst e
 rw [hx] at gy; cases gy
 rcases hd with ⟨rfl,h1⟩ | ⟨rfl,h1,h2⟩ | ⟨rfl,h1,h2,_⟩ <;> rcases gd with ⟨rfl,g1⟩ | ⟨rfl,g1,g2⟩ | ⟨rfl,g1,g2,_⟩ <;> first | rfl | exact absurd h1 g1 | exact absurd g1 h1 | exact absurd h2 g2 | exact absurd g2 h2
def ChkErr (a : Au) (r : Int) : Prop := (r ≠ 0 ∧ SetErr a.al 32 r) ∨ (setOk a.al 32 a.al.length ∧ ((r = 2 ∧ a.n < 0) ∨ (r = 3 ∧ 4096 < a.n))) ∨ (setOk a.al 32 a.al.length ∧ (0 ≤ a.n ∧ a.n ≤ 4096) ∧ r ≠ 0 ∧ SetErr a.mr a.n r) ∨
 (setOk a.al 32 a.al.length ∧ (0 ≤ a.n ∧ a.n ≤ 4096) ∧ setOk a.mr a.n a.mr.length ∧ EdErr a r)
theorem ChkErr.zero {a : Au} {r : Int} (h : ChkErr a r) : r = 0 ↔ a.Right := by
 rcases h with ⟨h,g⟩ | ⟨_,⟨rfl,h⟩ | ⟨rfl,h⟩⟩ | ⟨_,_,h,g⟩ | ⟨h1,⟨h2,h3⟩,h4,g⟩
 · exact ⟨fun e => absurd e h,fun e => g.zero.2 e.al⟩
 · exact ⟨fun e => absurd e (by decide),fun e => by have := e.n0; omega⟩
 · exact ⟨fun e => absurd e (by decide),fun e => by have := e.n1; omega⟩
 · exact ⟨fun e => absurd e h,fun e => g.zero.2 e.mr⟩
 · exact g.zero.trans ⟨fun h => ⟨h1,h2,h3,h4,h⟩,fun h => h.ed⟩
theorem ChkErr.uniq {a : Au} {r q : Int} (h : ChkErr a r) (g : ChkErr a q) : r = q := by
 rcases h with ⟨h0,h⟩ | ⟨h1,h⟩ | ⟨h1,h2,h0,h⟩ | ⟨h1,h2,h3,h⟩
 · have hn : ¬ setOk a.al 32 a.al.length := fun e => h0 (h.zero.2 e)
   rcases g with ⟨g0,g⟩ | ⟨g1,_⟩ | ⟨g1,_⟩ | ⟨g1,_⟩
   · exact h.uniq g
   · exact absurd g1 hn
   · exact absurd g1 hn
   · exact absurd g1 hn
 · rcases g with ⟨g0,g⟩ | ⟨g1,g⟩ | ⟨g1,g2,_⟩ | ⟨g1,g2,_⟩
   · exact absurd (g.zero.2 h1) g0
   · rcases h with ⟨rfl,h⟩ | ⟨rfl,h⟩ <;> rcases g with ⟨rfl,g⟩ | ⟨rfl,g⟩ <;> first | rfl | (exfalso; omega)
   · exfalso; rcases h with ⟨_,h⟩ | ⟨_,h⟩ <;> omega
   · exfalso; rcases h with ⟨_,h⟩ | ⟨_,h⟩ <;> omega
 · rcases g with ⟨g0,g⟩ | ⟨g1,g⟩ | ⟨g1,g2,g0,g⟩ | ⟨g1,g2,g3,g⟩
   · exact absurd (g.zero.2 h1) g0
   · exfalso; rcases g with ⟨_,h⟩ | ⟨_,h⟩ <;> omega
   · exact h.uniq g
   · exact absurd (h.zero.2 g3) h0
 · rcases g with ⟨g0,g⟩ | ⟨g1,g⟩ | ⟨g1,g2,g0,g⟩ | ⟨g1,g2,g3,g⟩
   · exact absurd (g.zero.2 h1) g0
   · exfalso; rcases g with ⟨_,h⟩ | ⟨_,h⟩ <;> omega
   · exact absurd (g.zero.2 h3) g0
   · exact h.uniq g
theorem ErrsX.two {Q : Int → Prop} {w w' : World} {e : Ending} (h : ErrsX Q w e w') : (∃ r : Int,e = .returned (.int .i64 r) ∧ (r == 0) = false ∧ Hid (r ≠ 0) ∧ Hid (Q r) ∧ w = w') ∨ (e = .returned (.int .i64 0) ∧ Hid (Q 0) ∧ w = w') := by
 obtain ⟨r,rfl,hr,rfl⟩ := h
 by_cases h0 : r = 0
 · subst h0; exact .inr ⟨rfl,hr,rfl⟩
 · exact .inl ⟨r,rfl,by simpa using h0,h0,hr,rfl⟩
theorem ErrsXB.two {Q : Int → Prop} {w w' : World} {e : Ending} (h : ErrsXB Q w e w') : (∃ r : Int,e = .returned (.int .i64 r) ∧ (r == 0) = false ∧ Hid (r ≠ 0) ∧ Hid (Q r) ∧ Below w.heap.size w w') ∨ (e = .returned (.int .i64 0) ∧ Hid (Q 0) ∧ Below w.heap.size w w') := by
 obtain ⟨r,rfl,hr,hb⟩ := h
 by_cases h0 : r = 0
 · subst h0; exact .inr ⟨rfl,hr,hb⟩
 · exact .inl ⟨r,rfl,by simpa using h0,h0,hr,hb⟩
def GivesMini (a : Au) (w : World) (e : Ending) (w' : World) : Prop := ∃ m p',e = .returned (.tuple #[m.val p',.int .i64 0]) ∧ Hid (Sep w.heap.size w (eAu m p') w') ∧ Hid (Lens m) ∧ Hid (Mini a m)
def Mrg (a : Au) (c : List Int) (m : Au) : Prop := m.al = a.al ∧ ((a.n = 0 ∧ m = ⟨a.al,0,[],[]⟩) ∨ ∃ fs,Built (clsV c) (outK a fun _ => true) 0 m fs ∧ (∀ v,v ∈ fs → 0 ≤ v ∧ v < a.n) ∧ ∀ d : Nat,(d : Int) ∈ m.mr ↔ ∃ v,fs[d]? = some v ∧ v ∈ a.mr)
def MinB (a m : Au) : Prop := ∃ c k,c.length = a.n.toNat ∧ Canon c k ∧ (∀ i j : Nat,i < c.length → j < c.length → (c[i]? = c[j]? ↔ Eqv a i j)) ∧ Mrg a c m
def GivesMB (a : Au) (w : World) (e : Ending) (w' : World) : Prop := ∃ m p',e = .returned (.tuple #[m.val p',.int .i64 0]) ∧ Hid (Sep w.heap.size w (eAu m p') w') ∧ Hid (Lens m) ∧ Hid (MinB a m)
def GivesKX (a : Au) (w : World) (e : Ending) (w' : World) : Prop := ∃ r : Int,ChkErr a r ∧ ((r ≠ 0 ∧ e = .returned (.tuple #[.slice none 0 0,.int .i64 r]) ∧ Below w.heap.size w w') ∨ (r = 0 ∧ ∃ g c m,e = .returned (.tuple #[.slice (some ⟨g,0,none⟩) a.n.toNat a.n.toNat,.int .i64 0]) ∧ Hid (Sep w.heap.size w [eBlk g 3 (c.map (Value.int .i64))] w') ∧ Hid (c.length = a.n.toNat ∧ Canon c m ∧ ∀ i j : Nat,i < c.length → j < c.length → (c[i]? = c[j]? ↔ Eqv a i j))))
def GivesMX (a : Au) (w : World) (e : Ending) (w' : World) : Prop := ∃ r : Int,ChkErr a r ∧ ((r ≠ 0 ∧ e = .returned (.tuple #[.agg #[.slice none 0 0,.int .i64 0,.slice none 0 0,.slice none 0 0],.int .i64 r]) ∧ Below w.heap.size w w') ∨ (r = 0 ∧ GivesMB a w e w'))
def GivesIM (a : Au) (w : World) (e : Ending) (w' : World) : Prop := ∃ (r : Int) (f : Bool),ChkErr a r ∧ e = .returned (.tuple #[.bool f,.int .i64 r]) ∧ Below w.heap.size w w' ∧ ((r ≠ 0 ∧ f = false) ∨ (r = 0 ∧ ∃ m,MinB a m ∧ (f = true ↔ a = m)))
def fstF (c : List Int) (k : Nat) (u : Int) : Option Int := if u ∈ c.take k then some ((idxK c u : Nat) : Int) else none
def Same1 (a : Au) (c : List Int) (i j : Nat) : Prop := ((i : Int) ∈ a.mr ↔ (j : Int) ∈ a.mr) ∧ (sigV a c i).2 = (sigV a c j).2
def ConsV (a : Au) (c : List Int) : Prop := ∀ i j : Nat,i < c.length → j < c.length → c[i]? = c[j]? → Same1 a c i j
def PredOn {α : Type} (P : Program) (g : Nat) (lb : Array Value) (enc : α → Value) (p : α → Prop) (l : List α) (w : World) : Prop :=
 ∀ (W : World) (x : α),x ∈ l → Below w.heap.size w W → Calls P g (#[enc x] ++ lb) W (Tells (p x) W)

def Indexes {α : Type} (p : α → Prop) (l : List α) (w : World) (e : Ending) (w' : World) : Prop :=
 ∃ r : Int,e = .returned (.int .i64 r) ∧ (r = -1 ∧ (∀ x,x ∈ l → ¬ p x) ∨ ∃ k x,r = (k : Nat) ∧ l[k]? = some x ∧ p x ∧ ∀ j y,j < k → l[j]? = some y → ¬ p y) ∧ Below w.heap.size w w'

def Ed.enc (x : Ed) : Value := .agg #[.int .i64 x.src,.int .i64 x.ev,.int .i64 x.dst]

theorem Indexes.some_iff {α : Type} {p : α → Prop} {l : List α} {r : Int} (h : r = -1 ∧ (∀ x,x ∈ l → ¬ p x) ∨ ∃ k x,r = (k : Nat) ∧ l[k]? = some x ∧ p x ∧ ∀ j y,j < k → l[j]? = some y → ¬ p y) : 0 ≤ r ↔ ∃ x,x ∈ l ∧ p x := by
 rcases h with ⟨rfl,h⟩ | ⟨k,x,rfl,hx,hp,_⟩
 · exact ⟨fun h => absurd h (by omega),fun ⟨x,hx,hp⟩ => absurd hp (h x hx)⟩
 · exact ⟨fun _ => ⟨x,List.mem_of_getElem? hx,hp⟩,fun _ => by omega⟩

set_option maxHeartbeats 400000 in
theorem indexI_c (g : Nat) (lb : Array Value) (eg : ∀ args w,(callFunc g args).run Try.prog w = .ok (.enter g args) w) (p : Int → Prop) (A : Option Addr) (c : Nat) (l : List Int) (w : World)
 (hA : IntsAt w A l) (hl : l.length ≤ 140737488355328) (hp : PredOn Try.prog g lb (Value.int .i64) p l w) :
 Calls Try.prog 92 #[.slice A l.length c,.func (.func g) #[] lb] w (Indexes p l w) := by
 have HA := Lib.hid hA; clear hA
 have HP := Lib.hid hp; clear hp
 go_enter Try.func92,Try.ntmps92
 go_wp2
 go_loopw [8] (fun i wr => ∃ k : Nat,k ≤ l.length ∧ i = .int .i64 k ∧ Hid (Below w.heap.size w wr) ∧ Hid (∀ j y,j < k → l[j]? = some y → ¬ p y)) (fun i _ => l.length - (intOf i).toNat)
 case atStart => exact ⟨0,by omega,rfl,Below.refl _ _,fun j y h => absurd h (by omega)⟩
 case round =>
  obtain ⟨k,hk,rfl,BW,HN⟩ := hrel
  by_cases hlt : k < l.length
  · obtain ⟨b,off,x,rfl,hb,hx,e0⟩ := IntsAt.at (HA.out.below IntE.stays BW.out) hlt
    have hm : x ∈ l := List.mem_of_getElem? hx
    have hc := Lib.hid (HP.out wr x hm BW.out)
    clear hm
    go_wp2_with fail
    refine hc.out.mono ?_
    intro e w1 hs
    rcases hs.yes1 with ⟨rfl,S,hb1⟩ | ⟨rfl,S,hb1⟩
    · go_wp2
      go_ret
      exact ⟨k,rfl,.inr ⟨k,_,rfl,hx,S.out,HN.out⟩,BW.out.trans (hb1.mono BW.out.size)⟩
    · go_wp2
      go_roundw
      case rel => exact ⟨k + 1,by omega,by go_num,BW.out.trans (hb1.mono BW.out.size),fun j y hj hy => by
       by_cases h : j = k
       · subst h; rw [hx] at hy; cases hy; exact S.out
       · exact HN.out j y (by omega) hy⟩
      case measure => simp [intOf]; omega
  · obtain rfl : k = l.length := by omega
    go_wp2
    go_ret
    refine ⟨-1,rfl,.inl ⟨rfl,fun x hx => ?_⟩,BW.out⟩
    obtain ⟨j,hj,rfl⟩ := List.mem_iff_getElem.1 hx
    exact HN.out j _ hj (List.getElem?_eq_getElem hj)

set_option maxHeartbeats 400000 in
theorem containsI_c (g : Nat) (lb : Array Value) (eg : ∀ args w,(callFunc g args).run Try.prog w = .ok (.enter g args) w) (p : Int → Prop) (A : Option Addr) (c : Nat) (l : List Int) (w : World)
 (hA : IntsAt w A l) (hl : l.length ≤ 140737488355328) (hp : PredOn Try.prog g lb (Value.int .i64) p l w) :
 Calls Try.prog 73 #[.slice A l.length c,.func (.func g) #[] lb] w (Tells (∃ x,x ∈ l ∧ p x) w) := by
 have HC := Lib.hid (indexI_c g lb eg p A c l w hA hl hp)
 clear hA hp
 go_enter Try.func73,Try.ntmps73
 go_wp2_with (go_at_call 92; refine HC.out.mono ?_; rintro e w' ⟨r,rfl,hr,hb⟩; have HR := Lib.hid hr; clear hr)
 go_ret
 exact ⟨_,rfl,by rw [decide_eq_true_eq]; exact Indexes.some_iff HR.out,hb⟩

def MgErr (a : Au) (c : List Int) (r : Int) : Prop := ChkErr a r ∨ (a.Right ∧ (((c.length : Int) ≠ a.n ∧ r = 4) ∨ ((c.length : Int) = a.n ∧ (∃ x,x ∈ c ∧ (x < 0 ∨ a.n ≤ x)) ∧ r = 2) ∨ ((c.length : Int) = a.n ∧ ¬ (∃ x,x ∈ c ∧ (x < 0 ∨ a.n ≤ x)) ∧ ¬ ConsV a c ∧ r = 13)))
def GivesMg (a : Au) (c : List Int) (w : World) (e : Ending) (w' : World) : Prop := ∃ r : Int,(r ≠ 0 ∧ e = .returned (.tuple #[.agg #[.slice none 0 0,.int .i64 0,.slice none 0 0,.slice none 0 0],.int .i64 r]) ∧ Below w.heap.size w w' ∧ MgErr a c r) ∨
 (r = 0 ∧ ∃ m p',e = .returned (.tuple #[m.val p',.int .i64 0]) ∧ Hid (Sep w.heap.size w (eAu m p') w') ∧ Hid (Lens m) ∧ Hid (a.Right ∧ (c.length : Int) = a.n ∧ (¬ ∃ x,x ∈ c ∧ (x < 0 ∨ a.n ≤ x)) ∧ ConsV a c ∧ Mrg a c m))
set_option maxHeartbeats 400000 in
theorem indexE_c (g : Nat) (lb : Array Value) (eg : ∀ args w,(callFunc g args).run Try.prog w = .ok (.enter g args) w) (p : Ed → Prop) (A : Option Addr) (c : Nat) (l : List Ed) (w : World)
 (hA : EdsAt w A l) (hl : l.length ≤ 140737488355328) (hp : PredOn Try.prog g lb Ed.enc p l w) :
 Calls Try.prog 87 #[.slice A l.length c,.func (.func g) #[] lb] w (Indexes p l w) := by
 have HA := Lib.hid hA; clear hA
 have HP := Lib.hid hp; clear hp
 go_enter Try.func87,Try.ntmps87
 go_wp2
 go_loopw [8] (fun i wr => ∃ k : Nat,k ≤ l.length ∧ i = .int .i64 k ∧ Hid (Below w.heap.size w wr) ∧ Hid (∀ j y,j < k → l[j]? = some y → ¬ p y)) (fun i _ => l.length - (intOf i).toNat)
 case atStart => exact ⟨0,by omega,rfl,Below.refl _ _,fun j y h => absurd h (by omega)⟩
 case round =>
  obtain ⟨k,hk,rfl,BW,HN⟩ := hrel
  by_cases hlt : k < l.length
  · obtain ⟨b,off,x,rfl,hb,hx,e0,e1,e2⟩ := EdsAt.at (HA.out.below EdE.stays BW.out) hlt
    have hm : x ∈ l := List.mem_of_getElem? hx
    have hc := Lib.hid (HP.out wr x hm BW.out)
    obtain ⟨src,ev,dst⟩ := x
    dsimp only [Ed.enc] at e0 e1 e2 hc
    clear hm
    go_wp2_with fail
    refine hc.out.mono ?_
    intro e w1 hs
    rcases hs.yes1 with ⟨rfl,S,hb1⟩ | ⟨rfl,S,hb1⟩
    · go_wp2
      go_ret
      exact ⟨k,rfl,.inr ⟨k,_,rfl,hx,S.out,HN.out⟩,BW.out.trans (hb1.mono BW.out.size)⟩
    · go_wp2
      go_roundw
      case rel => exact ⟨k + 1,by omega,by go_num,BW.out.trans (hb1.mono BW.out.size),fun j y hj hy => by
       by_cases h : j = k
       · subst h; rw [hx] at hy; cases hy; exact S.out
       · exact HN.out j y (by omega) hy⟩
      case measure => simp [intOf]; omega
  · obtain rfl : k = l.length := by omega
    go_wp2
    go_ret
    refine ⟨-1,rfl,.inl ⟨rfl,fun x hx => ?_⟩,BW.out⟩
    obtain ⟨j,hj,rfl⟩ := List.mem_iff_getElem.1 hx
    exact HN.out j _ hj (List.getElem?_eq_getElem hj)

set_option maxHeartbeats 400000 in
theorem containsE_c (g : Nat) (lb : Array Value) (eg : ∀ args w,(callFunc g args).run Try.prog w = .ok (.enter g args) w) (p : Ed → Prop) (A : Option Addr) (c : Nat) (l : List Ed) (w : World)
 (hA : EdsAt w A l) (hl : l.length ≤ 140737488355328) (hp : PredOn Try.prog g lb Ed.enc p l w) :
 Calls Try.prog 57 #[.slice A l.length c,.func (.func g) #[] lb] w (Tells (∃ x,x ∈ l ∧ p x) w) := by
 have HC := Lib.hid (indexE_c g lb eg p A c l w hA hl hp)
 clear hA hp
 go_enter Try.func57,Try.ntmps57
 go_wp2_with (go_at_call 87; refine HC.out.mono ?_; rintro e w' ⟨r,rfl,hr,hb⟩; have HR := Lib.hid hr; clear hr)
 go_ret
 exact ⟨_,rfl,by rw [decide_eq_true_eq]; exact Indexes.some_iff HR.out,hb⟩
set_option maxHeartbeats 1000000 in
theorem outgoing_c (n : Nat) (al mr : List Int) (ed : List Ed) (p : AuP) (w : World) (hn : n ≤ 4096) (h3 : EdsAt w p.A3 ed) (l3 : ed.length ≤ 1000000) (hr : ∀ x,x ∈ ed → 0 ≤ x.src ∧ x.src < n) :
 Calls Try.prog 23 #[Au.val ⟨al,n,mr,ed⟩ p] w (Outs n ed w) := by
 obtain ⟨A1,c1,A2,c2,A3,c3⟩ := p
 try dsimp only [Au.val] at *
 have G3 := Lib.hid h3
 have HR := Lib.hid hr
 clear h3 hr
 have hmk := make_run (P := Try.prog) 91 37 (.slice none 0 0) 24 Try.underlying91 rowInfo rfl n (by omega) (by omega)
 go_enter Try.func23,Try.ntmps23
 go_wp2
 go_loopw [12] (fun i wr => ∃ k : Nat,k ≤ ed.length ∧ i = .int .i64 k ∧ Hid (Below w.heap.size w wr) ∧ Hid (OutG wr (w.heap.size + 1) (w.heap.size + 2) n (ed.take k)) ∧ w.heap.size + 1 < wr.heap.size) (fun i _ => ed.length - (intOf i).toNat)
 case atStart => exact ⟨0,by omega,rfl,((Below.new _ _).alloc (by simp) _),Lib.hid (by
  have := Gathers.made (T := 37) (E := 68) (size := 3) (w.alloc (.cells #[.slice A1 al.length c1,.int .i64 n,.slice A2 mr.length c2,.slice A3 ed.length c3] 39)) n (w.heap.size + 2)
  simp only [World.size_alloc] at this
  exact this),by simp⟩
 case round =>
  obtain ⟨k,hk,rfl,BW,HG,hsz⟩ := hrel
  by_cases hlt : k < ed.length
  · obtain ⟨b,off,x,hA3,hb,hx,e0,e1,e2⟩ := EdsAt.at (G3.out.below EdE.stays BW.out) hlt
    have hs := HR.out x (List.mem_of_getElem? hx)
    obtain ⟨src,ev,dst⟩ := x
    obtain ⟨s,rfl⟩ := Int.eq_ofNat_of_zero_le hs.1
    have hsn : s < n := by have := hs.2; simp only at this; omega
    clear hs
    subst hA3
    dsimp only at e0 e1 e2
    obtain ⟨v,hv,hfz,hown⟩ := HG.out.row hsn
    have HO := Lib.hid hown
    clear hown
    have hsz2 : w.heap.size < wr.heap.size := by omega
    have hlen := outOf_len (ed.take k) s
    have hlen2 : (ed.take k).length ≤ k := List.length_take_le _ _
    go_wp2
    have hne : ¬ w.heap.size + 1 = wr.heap.size := by omega
    have hne2 : ¬ wr.heap.size = w.heap.size + 1 := by omega
    go_region_law (
     (
       refine step_append_at rfl (.tmp 23) (.tmp 25) 37 rfl (w.heap.size + 2) 68 _ 3 24 Try.underlying37 edInfo rfl (by decide) v _ _ rfl ((HO.out.alloc _).alloc _) ⟨wr.heap.size + 1,0,none⟩ 1 1 (Ed.cells ⟨(s : Int),ev,dst⟩) rfl rfl ?_ ?_ ?_ ?_ ?_ ?_
       (exact new_cells (by simp))
       (intro u hu; simp [Ed.cells] at hu; rcases hu with rfl | rfl | rfl <;> rfl)
       (simp only [maxLen]; omega)
       (omega)
       (simp; omega)
       intro A' c' w1 ho hg hb'
       have q := own_cell (w0 := wr) (B := wr.heap.size) (bo := w.heap.size + 1) (v := v) hg (((Below.new wr _).alloc (by simp) _).drew) ((HO.out.alloc _).alloc _) (by omega) (by omega) (by omega) s
       rw [hv,hfz] at q
       obtain ⟨q1,q2⟩ := q
       have hx' := fun j => World.cell?_of_block (a := ⟨wr.heap.size,j,none⟩) (hg.block wr.heap.size (by simp; omega) (fun e => Nat.lt_irrefl _ (HO.out.lt _ e.symm).2))
       have q3 : w1.cell? ⟨wr.heap.size,0,none⟩ = some (.int .i64 (s : Int)) := (hx' 0).trans (((BlkAt.new wr 68 (Ed.cells ⟨s,ev,dst⟩)).alloc _).cell 0)
       have q4 : w1.cell? ⟨wr.heap.size,1,none⟩ = some (.int .i64 ev) := (hx' 1).trans (((BlkAt.new wr 68 (Ed.cells ⟨s,ev,dst⟩)).alloc _).cell 1)
       have q5 : w1.cell? ⟨wr.heap.size,2,none⟩ = some (.int .i64 dst) := (hx' 2).trans (((BlkAt.new wr 68 (Ed.cells ⟨s,ev,dst⟩)).alloc _).cell 2)
       clear hx'
       have HO1 := Lib.hid ho
       have HG1 := Lib.hid hg
       have HB1 := Lib.hid hb'
       clear ho hg hb'))
    all_goals
     go_wp2
     go_roundw
     case rel =>
      refine ⟨k + 1,by omega,by go_num,((((BW.out.alloc (by omega) _).alloc (by simp; omega) _).drew).grown HG1.out (by simp; omega) (fun j hj => by have := (HO.out.lt j hj).1; omega)).setCell (by simp) _,?_,?_⟩
      · have := OutG.next (HG.out.below (((Below.new wr _).alloc (by simp) _).drew) (Nat.le_refl _)) (by omega) hsn (by rw [(((Below.new wr _).alloc (by simp) _).drew).cell (p := ⟨w.heap.size + 1,s,none⟩) hsz]; exact hv) HO1.out HG1.out HB1.out
        rw [List.take_add_one,hx]
        exact this
      · have := HG1.out.size
        simp at this ⊢
        omega
     case measure => simp [intOf]; omega
  · obtain rfl : k = ed.length := by omega
    go_wp2
    go_ret
    exact ⟨w.heap.size + 1,rfl,by omega,OutG.rows (by have := HG.out; rw [List.take_length] at this; exact this) (by omega),BW.out⟩
def BoolE : Reading Bool := fun _ x vs => vs = [.bool x]
theorem BoolE.stays : Stays BoolE := fun _ _ _ _ _ h => h
abbrev BoolsAt := SlAt BoolE 1
theorem BoolsAt.get {w : World} {A : Option Addr} {l : List Bool} (h : BoolsAt w A l) {k : Nat} {x : Bool} (hx : l[k]? = some x) : ∃ b off,A = some ⟨b,off,none⟩ ∧ b < w.heap.size ∧ w.cell? ⟨b,off + k,none⟩ = some (.bool x) := by
 obtain ⟨b,off,y,vs,hA,hlt,hy,_,hE,hc⟩ := SlAt.at h (List.getElem?_eq_some_iff.1 hx).1
 obtain rfl : vs = [.bool y] := hE
 rw [hx] at hy; cases hy
 exact ⟨b,off,hA,hlt,by simpa using hc 0 _ rfl⟩
theorem IntsAt.get {w : World} {A : Option Addr} {l : List Int} (h : IntsAt w A l) {k : Nat} {x : Int} (hx : l[k]? = some x) : ∃ b off,A = some ⟨b,off,none⟩ ∧ b < w.heap.size ∧ w.cell? ⟨b,off + k,none⟩ = some (.int .i64 x) := by
 obtain ⟨b,off,y,hA,hlt,hy,hc⟩ := IntsAt.at h (List.getElem?_eq_some_iff.1 hx).1
 rw [hx] at hy; cases hy
 exact ⟨b,off,hA,hlt,hc⟩

structure Rm where
 st : Int
 rank : Int
 reason : Int
 ev : Int
deriving DecidableEq
def Rm.cells (x : Rm) : List Value := [.int .i64 x.st,.int .i64 x.rank,.int .i64 x.reason,.int .i64 x.ev]
def RmE : Reading Rm := fun _ x vs => vs = Rm.cells x
theorem RmE.stays : Stays RmE := fun _ _ _ _ _ h => h
abbrev RmsAt := SlAt RmE 4
theorem RmsAt.get {w : World} {A : Option Addr} {l : List Rm} (h : RmsAt w A l) {k : Nat} {x : Rm} (hx : l[k]? = some x) : ∃ b off,A = some ⟨b,off,none⟩ ∧ b < w.heap.size ∧
 w.cell? ⟨b,off + k * 4,none⟩ = some (.int .i64 x.st) ∧ w.cell? ⟨b,off + k * 4 + 1,none⟩ = some (.int .i64 x.rank) ∧ w.cell? ⟨b,off + k * 4 + 2,none⟩ = some (.int .i64 x.reason) ∧ w.cell? ⟨b,off + k * 4 + 3,none⟩ = some (.int .i64 x.ev) := by
 obtain ⟨b,off,y,vs,hA,hlt,hy,_,hE,hc⟩ := SlAt.at h (List.getElem?_eq_some_iff.1 hx).1
 obtain rfl : vs = Rm.cells y := hE
 rw [hx] at hy; cases hy
 exact ⟨b,off,hA,hlt,by simpa using hc 0 _ rfl,hc 1 _ rfl,hc 2 _ rfl,hc 3 _ rfl⟩

structure Sp where
 kp : List Bool
 pl : List Int
 rm : List Rm
structure SpP where
 Ak : Option Addr
 ck : Nat
 Ap : Option Addr
 cp : Nat
 Ar : Option Addr
 cr : Nat
abbrev Sp.val (s : Sp) (p : SpP) : Value := .agg #[.slice p.Ak s.kp.length p.ck,.slice p.Ap s.pl.length p.cp,.slice p.Ar s.rm.length p.cr]
structure Sp.At (w : World) (s : Sp) (p : SpP) : Prop where
 kp : BoolsAt w p.Ak s.kp
 pl : IntsAt w p.Ap s.pl
 rm : RmsAt w p.Ar s.rm
 lkp : s.kp.length ≤ 4096
 lpl : s.pl.length ≤ 4096
 lrm : s.rm.length ≤ 4096
theorem Sp.At.below {w w' : World} {s : Sp} {p : SpP} (h : Sp.At w s p) (hb : Below w.heap.size w w') : Sp.At w' s p :=
 ⟨h.kp.below BoolE.stays hb,h.pl.below IntE.stays hb,h.rm.below RmE.stays hb,h.lkp,h.lpl,h.lrm⟩

structure Sp.Of (s : Sp) (n : Nat) (kept : List Int) : Prop where
 lk : s.kp.length = n
 lp : s.pl.length = n
 all : ∀ i : Nat,i < n → (s.kp[i]? = some true ∧ ∃ k : Nat,s.pl[i]? = some (k : Int) ∧ kept[k]? = some (i : Int)) ∨ (s.kp[i]? = some false ∧ ∃ (k : Nat) (r : Rm),s.pl[i]? = some (k : Int) ∧ s.rm[k]? = some r ∧ r.st = (i : Int))
 incr : incr kept
 incr' : ∀ (i j : Nat) (x y : Rm),i < j → s.rm[i]? = some x → s.rm[j]? = some y → x.st < y.st

def lowerP (rm : List Rm) (i rank : Int) : Prop := ∃ r,r ∈ rm ∧ r.st = i ∧ r.rank < rank
def alikeP (rm : List Rm) (i rank : Int) : Prop := ∃ r,r ∈ rm ∧ r.st = i ∧ r.rank = rank ∧ r.reason = 3

set_option maxHeartbeats 400000 in
theorem lower_c (s : Sp) (p : SpP) (n : Nat) (kept : List Int) (i : Nat) (rank : Int) (w : World) (h : Sp.At w s p) (ho : s.Of n kept) (hi : i < n) (hx : ∀ r,r ∈ s.rm → r.st = (i : Int) → s.kp[i]? = some false) :
 Calls Try.prog 61 #[s.val p,.int .i64 i,.int .i64 rank] w (Tells (lowerP s.rm i rank) w) := by
 obtain ⟨kp,pl,rm⟩ := s
 obtain ⟨Ak,ck,Ap,cp,Ar,cr⟩ := p
 obtain ⟨hk,hp,hr,lk,lp,lr⟩ := h
 have hik : i < kp.length := by have := ho.lk; simp only at this; omega
 have hip : i < pl.length := by have := ho.lp; simp only at this; omega
 have HA := ho.all i hi
 have HI := Lib.hid ho.incr'
 have HX := Lib.hid hx
 clear ho hx
 dsimp only [Sp.val] at *
 rcases HA with ⟨hki,k,hpi,hkk⟩ | ⟨hki,k,r,hpi,hrk,hst⟩
 · obtain ⟨b1,o1,rfl,l1,e1⟩ := BoolsAt.get hk hki
   have F := Lib.hid (show ¬ lowerP rm i rank from fun ⟨r,h1,h2,_⟩ => by have := HX.out r h1 h2; rw [hki] at this; cases this)
   clear hk hp hr hki hpi hkk
   go_enter Try.func61,Try.ntmps61
   go_wp2_with fail
   go_quiet (fail)
   go_wp2
   go_ret
   exact Tells.no F.out ((Below.new _ _).draws _)
 · obtain ⟨b1,o1,rfl,l1,e1⟩ := BoolsAt.get hk hki
   obtain ⟨b2,o2,rfl,l2,e2⟩ := IntsAt.get hp hpi
   obtain ⟨b3,o3,rfl,l3,_,e3,_,_⟩ := RmsAt.get hr hrk
   have hkl : k < rm.length := (List.getElem?_eq_some_iff.1 hrk).1
   have F := Lib.hid (show lowerP rm i rank ↔ r.rank < rank from ⟨fun ⟨r',h1,h2,h3⟩ => by
    obtain ⟨j,hj,rfl⟩ := List.mem_iff_getElem.1 h1
    by_cases e : j = k
    · subst e; rw [List.getElem?_eq_getElem hj] at hrk; cases hrk; exact h3
    · rcases Nat.lt_or_gt_of_ne e with e | e
      · have := HI.out j k _ _ e (List.getElem?_eq_getElem hj) hrk; omega
      · have := HI.out k j _ _ e hrk (List.getElem?_eq_getElem hj); omega,fun h => ⟨r,List.mem_of_getElem? hrk,hst,h⟩⟩)
   clear hk hp hr hki hpi hrk hst
   generalize r.rank = q at e3 F
   go_enter Try.func61,Try.ntmps61
   go_wp2_with fail
   go_quiet (fail)
   go_wp2
   go_ret
   exact ⟨_,rfl,by rw [F.out]; simp,(Below.new _ _).draws _⟩

set_option maxHeartbeats 400000 in
theorem alike_c (s : Sp) (p : SpP) (n : Nat) (kept : List Int) (i : Nat) (rank : Int) (w : World) (h : Sp.At w s p) (ho : s.Of n kept) (hi : i < n) (hx : ∀ r,r ∈ s.rm → r.st = (i : Int) → s.kp[i]? = some false) :
 Calls Try.prog 63 #[s.val p,.int .i64 i,.int .i64 rank] w (Tells (alikeP s.rm i rank) w) := by
 obtain ⟨kp,pl,rm⟩ := s
 obtain ⟨Ak,ck,Ap,cp,Ar,cr⟩ := p
 obtain ⟨hk,hp,hr,lk,lp,lr⟩ := h
 have hik : i < kp.length := by have := ho.lk; simp only at this; omega
 have hip : i < pl.length := by have := ho.lp; simp only at this; omega
 have HA := ho.all i hi
 have HI := Lib.hid ho.incr'
 have HX := Lib.hid hx
 clear ho hx
 dsimp only [Sp.val] at *
 rcases HA with ⟨hki,k,hpi,hkk⟩ | ⟨hki,k,r,hpi,hrk,hst⟩
 · obtain ⟨b1,o1,rfl,l1,e1⟩ := BoolsAt.get hk hki
   have F := Lib.hid (show ¬ alikeP rm i rank from fun ⟨r,h1,h2,_⟩ => by have := HX.out r h1 h2; rw [hki] at this; cases this)
   clear hk hp hr hki hpi hkk
   go_enter Try.func63,Try.ntmps63
   go_wp2_with fail
   go_quiet (fail)
   go_wp2
   go_ret
   exact Tells.no F.out ((Below.new _ _).draws _)
 · obtain ⟨b1,o1,rfl,l1,e1⟩ := BoolsAt.get hk hki
   obtain ⟨b2,o2,rfl,l2,e2⟩ := IntsAt.get hp hpi
   obtain ⟨b3,o3,rfl,l3,_,e3,e4,_⟩ := RmsAt.get hr hrk
   have hkl : k < rm.length := (List.getElem?_eq_some_iff.1 hrk).1
   have F := Lib.hid (show alikeP rm i rank ↔ r.rank = rank ∧ r.reason = 3 from ⟨fun ⟨r',h1,h2,h3⟩ => by
    obtain ⟨j,hj,rfl⟩ := List.mem_iff_getElem.1 h1
    by_cases e : j = k
    · subst e; rw [List.getElem?_eq_getElem hj] at hrk; cases hrk; exact h3
    · rcases Nat.lt_or_gt_of_ne e with e | e
      · have := HI.out j k _ _ e (List.getElem?_eq_getElem hj) hrk; omega
      · have := HI.out k j _ _ e hrk (List.getElem?_eq_getElem hj); omega,fun h => ⟨r,List.mem_of_getElem? hrk,hst,h⟩⟩)
   clear hk hp hr hki hpi hrk hst
   generalize r.rank = q at e3 F
   generalize r.reason = z at e4 F
   by_cases hq : q = rank
   · subst hq
     go_enter Try.func63,Try.ntmps63
     go_wp2_with fail
     go_quiet (fail)
     go_wp2
     go_ret
     exact ⟨_,rfl,by rw [F.out]; simp,(Below.new _ _).draws _⟩
   · have hq' : (q == rank) = false := by simpa using hq
     have F2 := Lib.hid (show ¬ alikeP rm i rank from fun h => hq (F.out.1 h).1)
     go_enter Try.func63,Try.ntmps63
     go_wp2_with fail
     go_quiet (fail)
     go_wp2
     go_ret
     exact Tells.no F2.out ((Below.new _ _).draws _)
set_option maxHeartbeats 400000 in
theorem removes1_c (bs br : Nat) (s : Sp) (p : SpP) (n : Nat) (kept : List Int) (src ev : Int) (dst : Nat) (rank rev : Int) (w : World) (h : Sp.At w s p) (ho : s.Of n kept) (hi : dst < n) (hx : ∀ r,r ∈ s.rm → r.st = (dst : Int) → s.kp[dst]? = some false)
 (c0 : w.cell? ⟨bs,0,none⟩ = some (.slice p.Ak s.kp.length p.ck)) (c1 : w.cell? ⟨bs,1,none⟩ = some (.slice p.Ap s.pl.length p.cp)) (c2 : w.cell? ⟨bs,2,none⟩ = some (.slice p.Ar s.rm.length p.cr)) (hbs : bs < w.heap.size)
 (r1 : w.cell? ⟨br,1,none⟩ = some (.int .i64 rank)) (r3 : w.cell? ⟨br,3,none⟩ = some (.int .i64 rev)) (hbr : br < w.heap.size) :
 Calls Try.prog 60 #[.agg #[.int .i64 src,.int .i64 ev,.int .i64 dst],.pointer (some ⟨br,0,none⟩),.pointer (some ⟨bs,0,none⟩)] w (Tells (ev = rev ∧ lowerP s.rm dst rank) w) := by
 have HC := Lib.hid (lower_c s p n kept dst rank (w.alloc (.cells #[.int .i64 src,.int .i64 ev,.int .i64 dst] 68)) (h.below (Below.new _ _)) ho hi hx)
 clear h ho hi hx
 obtain ⟨kp,pl,rm⟩ := s
 obtain ⟨Ak,ck,Ap,cp,Ar,cr⟩ := p
 dsimp only [Sp.val] at *
 by_cases he : ev = rev
 · subst he
   go_enter Try.func60,Try.ntmps60
   go_wp2_with fail
   refine HC.out.mono ?_
   rintro e w1 ⟨r,rfl,hr,hb⟩
   have HR := Lib.hid hr
   clear hr
   go_wp2
   go_ret
   exact ⟨r,rfl,by rw [HR.out]; simp,(Below.new _ _).trans (hb.mono (by simp))⟩
 · have he' : (ev == rev) = false := by simpa using he
   go_enter Try.func60,Try.ntmps60
   go_wp2
   go_ret
   exact ⟨_,rfl,by simp [he],Below.new _ _⟩

set_option maxHeartbeats 400000 in
theorem removes2_c (bs br : Nat) (s : Sp) (p : SpP) (n : Nat) (kept : List Int) (src ev : Int) (dst : Nat) (rank : Int) (w : World) (h : Sp.At w s p) (ho : s.Of n kept) (hi : dst < n) (hx : ∀ r,r ∈ s.rm → r.st = (dst : Int) → s.kp[dst]? = some false)
 (c0 : w.cell? ⟨bs,0,none⟩ = some (.slice p.Ak s.kp.length p.ck)) (c1 : w.cell? ⟨bs,1,none⟩ = some (.slice p.Ap s.pl.length p.cp)) (c2 : w.cell? ⟨bs,2,none⟩ = some (.slice p.Ar s.rm.length p.cr)) (hbs : bs < w.heap.size)
 (r1 : w.cell? ⟨br,1,none⟩ = some (.int .i64 rank)) (hbr : br < w.heap.size) :
 Calls Try.prog 62 #[.agg #[.int .i64 src,.int .i64 ev,.int .i64 dst],.pointer (some ⟨bs,0,none⟩),.pointer (some ⟨br,0,none⟩)] w (Tells (¬ lowerP s.rm dst rank ∧ ¬ alikeP s.rm dst rank) w) := by
 have HC := Lib.hid (lower_c s p n kept dst rank (w.alloc (.cells #[.int .i64 src,.int .i64 ev,.int .i64 dst] 68)) (h.below (Below.new _ _)) ho hi hx)
 have HD := Lib.hid (fun w1 (hb : Below (w.heap.size + 1) (w.alloc (.cells #[.int .i64 src,.int .i64 ev,.int .i64 dst] 68)) w1) => alike_c s p n kept dst rank w1 ((h.below (Below.new _ _)).below (by simpa using hb)) ho hi hx)
 clear h ho hi hx
 obtain ⟨kp,pl,rm⟩ := s
 obtain ⟨Ak,ck,Ap,cp,Ar,cr⟩ := p
 dsimp only [Sp.val] at *
 go_enter Try.func62,Try.ntmps62
 go_wp2_with fail
 refine HC.out.mono ?_
 intro e w1 hs
 rcases hs.yes1 with ⟨rfl,S,hb⟩ | ⟨rfl,S,hb⟩
 · go_wp2
   go_ret
   exact Tells.no (fun h => h.1 S.out) ((Below.new _ _).trans (hb.mono (by simp)))
 · have hb1 : Below (w.heap.size + 1) (w.alloc (.cells #[.int .i64 src,.int .i64 ev,.int .i64 dst] 68)) w1 := by simpa using hb
   have HB := Lib.hid hb1
   have q0 : w1.cell? ⟨bs,0,none⟩ = some (.slice Ak kp.length ck) := (hb1.cell (p := ⟨bs,0,none⟩) (Nat.lt_succ_of_lt hbs)).trans ((World.cell?_alloc_lt w _ ⟨bs,_,none⟩ hbs).trans c0)
   have q1 : w1.cell? ⟨bs,1,none⟩ = some (.slice Ap pl.length cp) := (hb1.cell (p := ⟨bs,1,none⟩) (Nat.lt_succ_of_lt hbs)).trans ((World.cell?_alloc_lt w _ ⟨bs,_,none⟩ hbs).trans c1)
   have q2 : w1.cell? ⟨bs,2,none⟩ = some (.slice Ar rm.length cr) := (hb1.cell (p := ⟨bs,2,none⟩) (Nat.lt_succ_of_lt hbs)).trans ((World.cell?_alloc_lt w _ ⟨bs,_,none⟩ hbs).trans c2)
   have q3 : w1.cell? ⟨br,1,none⟩ = some (.int .i64 rank) := (hb1.cell (p := ⟨br,1,none⟩) (Nat.lt_succ_of_lt hbr)).trans ((World.cell?_alloc_lt w _ ⟨br,_,none⟩ hbr).trans r1)
   have q4 : w1.cell? ⟨w.heap.size,2,none⟩ = some (.int .i64 (dst : Int)) := (hb1.cell (p := ⟨w.heap.size,2,none⟩) (by simp)).trans (by simp)
   clear hb hb1
   go_wp2_with fail
   refine (HD.out w1 HB.out).mono ?_
   rintro e w2 ⟨r,rfl,hr,hb2⟩
   have HR := Lib.hid hr
   clear hr
   go_wp2
   go_ret
   have h1 := HB.out.size
   simp at h1
   refine ⟨!r,rfl,?_,(Below.new _ _).trans ((HB.out.mono (by omega)).trans (hb2.mono (by omega)))⟩
   have := HR.out
   cases r <;> simp_all [S.out]
set_option maxHeartbeats 400000 in
theorem keeps1_c (bs bp : Nat) (Ak : Option Addr) (ck : Nat) (kp : List Bool) (AU : Option Addr) (cU : Nat) (unc : List Int) (src ev : Int) (dst : Nat) (kd : Bool) (w : World)
 (hs : w.cell? ⟨bs,0,none⟩ = some (.slice Ak kp.length ck)) (hk : BoolsAt w Ak kp) (hkd : kp[dst]? = some kd) (lk : kp.length ≤ 4096) (hbs : bs < w.heap.size)
 (hp : w.cell? ⟨bp,5,none⟩ = some (.slice AU unc.length cU)) (hu : IntsAt w AU unc) (lu : unc.length ≤ 140737488355328) (hi : incr unc) (hbp : bp < w.heap.size) :
 Calls Try.prog 58 #[.agg #[.int .i64 src,.int .i64 ev,.int .i64 dst],.pointer (some ⟨bs,0,none⟩),.pointer (some ⟨bp,0,none⟩)] w (Tells (kd = false ∧ ev ∈ unc) w) := by
 obtain ⟨b1,o1,rfl,l1,e1⟩ := BoolsAt.get hk hkd
 have hdl : dst < kp.length := (List.getElem?_eq_some_iff.1 hkd).1
 have HU := Lib.hid hu
 have HI := Lib.hid hi
 clear hk hu hi hkd
 cases kd with
 | true =>
   go_enter Try.func58,Try.ntmps58
   go_wp2
   go_ret
   exact Tells.no (by simp) (Below.new _ _)
 | false =>
   go_enter Try.func58,Try.ntmps58
   go_wp2_with fail
   refine (has_c AU cU unc ev _ (HU.out.below IntE.stays (Below.new _ _)) (by omega) HI.out).mono ?_
   rintro e w1 ⟨r,rfl,hr,rfl⟩
   have HR := Lib.hid hr
   clear hr
   go_wp2
   go_ret
   exact ⟨r,rfl,by rw [HR.out]; simp,Below.new _ _⟩

set_option maxHeartbeats 400000 in
theorem keeps2_c (bs bd b0 : Nat) (Ak Ap AD : Option Addr) (ck cp cD : Nat) (kp : List Bool) (pl dist : List Int) (src ev : Int) (dst k : Nat) (d d1 : Int) (w : World) (kd : Bool)
 (hs : w.cell? ⟨bs,0,none⟩ = some (.slice Ak kp.length ck)) (hs1 : w.cell? ⟨bs,1,none⟩ = some (.slice Ap pl.length cp)) (hk : BoolsAt w Ak kp) (hkd : kp[dst]? = some kd) (lk : kp.length ≤ 4096) (lp : pl.length ≤ 4096) (ld : dist.length ≤ 4096) (hbs : bs < w.heap.size)
 (hd : w.cell? ⟨bd,0,none⟩ = some (.slice AD dist.length cD)) (hbd : bd < w.heap.size) (hD : IntsAt w AD dist) (hP : IntsAt w Ap pl)
 (h0 : w.cell? ⟨b0,0,none⟩ = some (.int .i64 d)) (hb0 : b0 < w.heap.size) (hpl : kd = true → pl[dst]? = some (k : Int)) (hdd : kd = true → dist[k]? = some d1) :
 Calls Try.prog 59 #[.agg #[.int .i64 src,.int .i64 ev,.int .i64 dst],.pointer (some ⟨bs,0,none⟩),.pointer (some ⟨bd,0,none⟩),.pointer (some ⟨b0,0,none⟩)] w (Tells (kd = true ∧ d1 < d) w) := by
 obtain ⟨b1,o1,rfl,l1,e1⟩ := BoolsAt.get hk hkd
 have hdl : dst < kp.length := (List.getElem?_eq_some_iff.1 hkd).1
 clear hk hkd
 cases kd with
 | false =>
   clear hpl hdd hD hP
   go_enter Try.func59,Try.ntmps59
   go_wp2_with fail
   go_quiet (fail)
   go_wp2
   go_ret
   exact Tells.no (by simp) ((Below.new _ _).draws _)
 | true =>
   have hpl' := hpl rfl
   have hdd' := hdd rfl
   obtain ⟨b2,o2,rfl,l2,e2⟩ := IntsAt.get hP hpl'
   obtain ⟨b3,o3,rfl,l3,e3⟩ := IntsAt.get hD hdd'
   have hkl : k < dist.length := (List.getElem?_eq_some_iff.1 hdd').1
   have hpl2 : dst < pl.length := (List.getElem?_eq_some_iff.1 hpl').1
   clear hpl hdd hpl' hdd' hD hP
   go_enter Try.func59,Try.ntmps59
   go_wp2_with fail
   go_quiet (fail)
   go_wp2
   go_ret
   exact ⟨_,rfl,by simp,(Below.new _ _).draws _⟩
structure PrP where
 a : AuP
 AF : Option Addr
 cF : Nat
 AU : Option Addr
 cU : Nat
abbrev prCells (au : Au) (forb unc : List Int) (p : PrP) : Array Value := #[.slice p.a.A1 au.al.length p.a.c1,.int .i64 au.n,.slice p.a.A2 au.mr.length p.a.c2,.slice p.a.A3 au.ed.length p.a.c3,.slice p.AF forb.length p.cF,.slice p.AU unc.length p.cU]
abbrev prVal (au : Au) (forb unc : List Int) (p : PrP) : Value := .agg (prCells au forb unc p)
structure PrAt (w : World) (au : Au) (forb unc : List Int) (p : PrP) : Prop where
 au : Au.At w au p.a
 hf : IntsAt w p.AF forb
 hu : IntsAt w p.AU unc
 lf : forb.length ≤ 140737488355328
 lu : unc.length ≤ 140737488355328
theorem PrAt.below {w w' : World} {au : Au} {forb unc : List Int} {p : PrP} (h : PrAt w au forb unc p) (hb : Below w.heap.size w w') : PrAt w' au forb unc p :=
 ⟨h.au.below hb,h.hf.below IntE.stays hb,h.hu.below IntE.stays hb,h.lf,h.lu⟩

def keeps1P (kp : List Bool) (unc : List Int) (x : Ed) : Prop := kp[x.dst.toNat]? = some false ∧ x.ev ∈ unc
def keeps2P (kp : List Bool) (pl dist : List Int) (d : Int) (x : Ed) : Prop := kp[x.dst.toNat]? = some true ∧ ∃ (k : Nat) (d1 : Int),pl[x.dst.toNat]? = some (k : Int) ∧ dist[k]? = some d1 ∧ d1 < d
def keepsP (forb unc mr : List Int) (kp : List Bool) (pl dist : List Int) (es : List Ed) (i d : Int) : Prop :=
 i ∉ forb ∧ (¬ ∃ x,x ∈ es ∧ keeps1P kp unc x) ∧ (d = 0 → i ∈ mr) ∧ (d ≠ 0 → 0 < d ∧ ∃ x,x ∈ es ∧ keeps2P kp pl dist d x)

theorem pred1 (w : World) (bs bp : Nat) (Ak : Option Addr) (ck : Nat) (kp : List Bool) (AU : Option Addr) (cU : Nat) (unc : List Int) (es : List Ed) (n : Nat)
 (hs : w.cell? ⟨bs,0,none⟩ = some (.slice Ak kp.length ck)) (hk : BoolsAt w Ak kp) (lk : kp.length ≤ 4096) (hn : kp.length = n) (hbs : bs < w.heap.size)
 (hp : w.cell? ⟨bp,5,none⟩ = some (.slice AU unc.length cU)) (hu : IntsAt w AU unc) (lu : unc.length ≤ 140737488355328) (hi : incr unc) (hbp : bp < w.heap.size)
 (hes : ∀ x,x ∈ es → 0 ≤ x.dst ∧ x.dst < n) :
 PredOn Try.prog 58 #[.pointer (some ⟨bs,0,none⟩),.pointer (some ⟨bp,0,none⟩)] Ed.enc (keeps1P kp unc) es w := by
 intro W x hx hb
 obtain ⟨h0,h1⟩ := hes x hx
 obtain ⟨src,ev,dst⟩ := x
 simp only at h0 h1
 obtain ⟨t,rfl⟩ := Int.eq_ofNat_of_zero_le h0
 have ht : t < kp.length := by omega
 refine (keeps1_c bs bp Ak ck kp AU cU unc src ev t kp[t] W ((hb.cell (p := ⟨bs,0,none⟩) hbs).trans hs) (hk.below BoolE.stays hb) (List.getElem?_eq_getElem ht) lk (Nat.lt_of_lt_of_le hbs hb.size)
  ((hb.cell (p := ⟨bp,5,none⟩) hbp).trans hp) (hu.below IntE.stays hb) lu hi (Nat.lt_of_lt_of_le hbp hb.size)).mono ?_
 rintro e w' ⟨r,rfl,hr,hb'⟩
 exact ⟨r,rfl,by rw [hr]; simp [keeps1P,ht],hb'⟩

theorem pred2 (w : World) (bs bd b0 : Nat) (Ak Ap AD : Option Addr) (ck cp cD : Nat) (kp : List Bool) (pl dist : List Int) (d : Int) (es : List Ed) (n : Nat)
 (hs : w.cell? ⟨bs,0,none⟩ = some (.slice Ak kp.length ck)) (hs1 : w.cell? ⟨bs,1,none⟩ = some (.slice Ap pl.length cp)) (hk : BoolsAt w Ak kp) (lk : kp.length ≤ 4096) (hn : kp.length = n) (lp : pl.length ≤ 4096) (ld : dist.length ≤ 4096) (hbs : bs < w.heap.size)
 (hd : w.cell? ⟨bd,0,none⟩ = some (.slice AD dist.length cD)) (hbd : bd < w.heap.size) (hD : IntsAt w AD dist) (hP : IntsAt w Ap pl)
 (h0 : w.cell? ⟨b0,0,none⟩ = some (.int .i64 d)) (hb0 : b0 < w.heap.size) (hes : ∀ x,x ∈ es → 0 ≤ x.dst ∧ x.dst < n)
 (hpl : ∀ t : Nat,kp[t]? = some true → ∃ k : Nat,pl[t]? = some (k : Int) ∧ k < dist.length) :
 PredOn Try.prog 59 #[.pointer (some ⟨bs,0,none⟩),.pointer (some ⟨bd,0,none⟩),.pointer (some ⟨b0,0,none⟩)] Ed.enc (keeps2P kp pl dist d) es w := by
 intro W x hx hb
 obtain ⟨g0,g1⟩ := hes x hx
 obtain ⟨src,ev,dst⟩ := x
 simp only at g0 g1
 obtain ⟨t,rfl⟩ := Int.eq_ofNat_of_zero_le g0
 have ht : t < kp.length := by omega
 have hkt : kp[t]? = some kp[t] := List.getElem?_eq_getElem ht
 have hex : ∃ (k : Nat) (d1 : Int),(kp[t] = true → pl[t]? = some (k : Int)) ∧ (kp[t] = true → dist[k]? = some d1) := by
  cases hq : kp[t] with
  | false => exact ⟨0,0,by simp,by simp⟩
  | true =>
    obtain ⟨k,h1,h2⟩ := hpl t (by rw [hkt,hq])
    exact ⟨k,dist[k],fun _ => h1,fun _ => List.getElem?_eq_getElem h2⟩
 obtain ⟨k,d1,hk1,hk2⟩ := hex
 refine (keeps2_c bs bd b0 Ak Ap AD ck cp cD kp pl dist src ev t k d d1 W kp[t] ((hb.cell (p := ⟨bs,0,none⟩) hbs).trans hs) ((hb.cell (p := ⟨bs,1,none⟩) hbs).trans hs1) (hk.below BoolE.stays hb) hkt lk lp ld (Nat.lt_of_lt_of_le hbs hb.size)
  ((hb.cell (p := ⟨bd,0,none⟩) hbd).trans hd) (Nat.lt_of_lt_of_le hbd hb.size) (hD.below IntE.stays hb) (hP.below IntE.stays hb) ((hb.cell (p := ⟨b0,0,none⟩) hb0).trans h0) (Nat.lt_of_lt_of_le hb0 hb.size) hk1 hk2).mono ?_
 rintro e w' ⟨r,rfl,hr,hb'⟩
 refine ⟨r,rfl,?_,hb'⟩
 rw [hr]
 simp only [keeps2P,Int.toNat_natCast,hkt,Option.some.injEq]
 constructor
 · rintro ⟨h1,h2⟩; exact ⟨h1,k,d1,hk1 h1,hk2 h1,h2⟩
 · rintro ⟨h1,k',d',h2,h3,h4⟩
   have := hk1 h1
   rw [this] at h2
   simp only [Option.some.injEq] at h2
   have hkk : k' = k := by omega
   subst hkk
   have := hk2 h1
   rw [this] at h3; cases h3
   exact ⟨h1,h4⟩

set_option maxHeartbeats 400000 in
theorem keeps_c (au : Au) (forb unc : List Int) (p : PrP) (s : Sp) (sp : SpP) (AE : Option Addr) (cE : Nat) (es : List Ed) (i k : Nat) (AD : Option Addr) (cD : Nat) (dist : List Int) (d : Int) (w : World)
 (hp : PrAt w au forb unc p) (hs : Sp.At w s sp) (n : Nat) (hn : s.kp.length = n) (hn' : s.pl.length = n) (hE : EdsAt w AE es) (lE : es.length ≤ 140737488355328) (hD : IntsAt w AD dist) (lD : dist.length ≤ 4096) (hif : incr forb) (hiu : incr unc) (him : incr au.mr)
 (hi : i < n) (hpi : s.pl[i]? = some (k : Int)) (hdk : dist[k]? = some d) (hes : ∀ x,x ∈ es → 0 ≤ x.dst ∧ x.dst < n) (hpl : ∀ t : Nat,s.kp[t]? = some true → ∃ k : Nat,s.pl[t]? = some (k : Int) ∧ k < dist.length) :
 Calls Try.prog 24 #[prVal au forb unc p,s.val sp,.slice AE es.length cE,.int .i64 i,.slice AD dist.length cD] w (Tells (keepsP forb unc au.mr s.kp s.pl dist es i d) w) := by
 obtain ⟨kp,pl,rm⟩ := s
 obtain ⟨Ak,ck,Ap,cp,Ar,cr⟩ := sp
 obtain ⟨al,m,mr,ed⟩ := au
 obtain ⟨⟨A1,c1,A2,c2,A3,c3⟩,AF,cF,AU,cU⟩ := p
 have HP := Lib.hid hp
 have HS := Lib.hid hs
 have HE := Lib.hid hE
 have HD := Lib.hid hD
 have HF := Lib.hid hif
 have HU := Lib.hid hiu
 have HM := Lib.hid him
 have HX := Lib.hid hes
 have HPL := Lib.hid hpl
 have HN := Lib.hid hn
 have lf : forb.length ≤ 140737488355328 := hp.lf
 have lu : unc.length ≤ 140737488355328 := hp.lu
 have lm : mr.length ≤ 140737488355328 := hp.au.lmk
 have lk : kp.length ≤ 4096 := hs.lkp
 have lp : pl.length ≤ 4096 := hs.lpl
 have hil : i < pl.length := by simp only at hn'; omega
 have hkl : k < dist.length := (List.getElem?_eq_some_iff.1 hdk).1
 obtain ⟨b2,o2,hA2,l2,e2⟩ := IntsAt.get hs.pl hpi
 obtain ⟨b3,o3,hA3,l3,e3⟩ := IntsAt.get hD hdk
 have HI := Lib.hid hpi
 have HK := Lib.hid hdk
 clear hp hs hE hD hif hiu him hes hpl hn hn' hpi hdk
 dsimp only [Sp.val,prVal,prCells] at *
 subst hA2 hA3
 go_enter Try.func24,Try.ntmps24
 go_wp2_with fail
 have B0 := Lib.hid (((Below.new w (.cells #[.slice A1 al.length c1,.int .i64 m,.slice A2 mr.length c2,.slice A3 ed.length c3,.slice AF forb.length cF,.slice AU unc.length cU] 44)).alloc (by simp) (.cells #[.slice Ak kp.length ck,.slice (some ⟨b2,o2,none⟩) pl.length cp,.slice Ar rm.length cr] 88)).alloc (by simp; omega) (.cells #[.slice (some ⟨b3,o3,none⟩) dist.length cD] 36))
 obtain ⟨W,hW⟩ : ∃ W,W = (((w.alloc (.cells #[.slice A1 al.length c1,.int .i64 m,.slice A2 mr.length c2,.slice A3 ed.length c3,.slice AF forb.length cF,.slice AU unc.length cU] 44)).alloc (.cells #[.slice Ak kp.length ck,.slice (some ⟨b2,o2,none⟩) pl.length cp,.slice Ar rm.length cr] 88)).alloc (.cells #[.slice (some ⟨b3,o3,none⟩) dist.length cD] 36)) := ⟨_,rfl⟩
 have f2 : W.cell? ⟨w.heap.size,2,none⟩ = some (.slice A2 mr.length c2) := by rw [hW,alloc_cell _ _ _ _ (by simp only [World.size_alloc]; omega),alloc_cell _ _ _ _ (by simp only [World.size_alloc]; omega),new_cell _ _ [_,_,_,_,_,_] _ _ rfl]; rfl
 have f5 : W.cell? ⟨w.heap.size,5,none⟩ = some (.slice AU unc.length cU) := by rw [hW,alloc_cell _ _ _ _ (by simp only [World.size_alloc]; omega),alloc_cell _ _ _ _ (by simp only [World.size_alloc]; omega),new_cell _ _ [_,_,_,_,_,_] _ _ rfl]; rfl
 have s0 : W.cell? ⟨w.heap.size + 1,0,none⟩ = some (.slice Ak kp.length ck) := by rw [hW,alloc_cell _ _ _ _ (by simp only [World.size_alloc]; omega),new_cell _ _ [_,_,_] _ _ (by simp only [World.size_alloc])]; rfl
 have s1 : W.cell? ⟨w.heap.size + 1,1,none⟩ = some (.slice (some ⟨b2,o2,none⟩) pl.length cp) := by rw [hW,alloc_cell _ _ _ _ (by simp only [World.size_alloc]; omega),new_cell _ _ [_,_,_] _ _ (by simp only [World.size_alloc])]; rfl
 have d0 : W.cell? ⟨w.heap.size + 2,0,none⟩ = some (.slice (some ⟨b3,o3,none⟩) dist.length cD) := by rw [hW,new_cell _ _ [_] _ _ (by simp only [World.size_alloc])]; rfl
 have hsz : w.heap.size + 2 < W.heap.size := by rw [hW]; simp only [World.size_alloc]; omega
 rw [← hW] at B0
 rw [← hW]
 clear hW
 refine (has_c AF cF forb i _ (HP.out.hf.below IntE.stays B0.out) (by omega) HF.out).mono ?_
 intro e w1 hs
 rcases hs.yes1 with ⟨rfl,S,rfl⟩ | ⟨rfl,S,rfl⟩
 · go_wp2
   go_ret
   exact Tells.no (fun h => h.1 S.out) B0.out
 go_wp2_with fail
 refine (containsE_c 58 _ (enters_of Try.func58 (by kernel_rfl) rfl) (keeps1P kp unc) AE cE es W (HE.out.below EdE.stays B0.out) lE
  (pred1 W (w.heap.size + 1) w.heap.size Ak ck kp AU cU unc es n s0 (HS.out.kp.below BoolE.stays B0.out) lk HN.out (by omega) f5 (HP.out.hu.below IntE.stays B0.out) lu HU.out (by omega) HX.out)).mono ?_
 intro e w1 hs
 rcases hs.yes1 with ⟨rfl,S1,hb1⟩ | ⟨rfl,S1,hb1⟩
 · go_wp2
   go_ret
   exact Tells.no (fun h => h.2.1 S1.out) (B0.out.trans (hb1.mono (by omega)))
 have B1 := Lib.hid hb1
 have B2 : Hid (Below w.heap.size w w1) := B0.out.trans (hb1.mono (by omega))
 have hsz1 : w.heap.size + 2 < w1.heap.size := Nat.lt_of_lt_of_le hsz hb1.size
 have f2' := old_cell hb1 f2 (by omega)
 have s0' := old_cell hb1 s0 (by omega)
 have s1' := old_cell hb1 s1 (by omega)
 have d0' := old_cell hb1 d0 (by omega)
 have e2' := old_cell B2.out e2 l2
 have e3' := old_cell B2.out e3 l3
 have l2' : b2 < w1.heap.size := by omega
 have l3' : b3 < w1.heap.size := by omega
 have z0 : w.heap.size < w1.heap.size := by omega
 have z1 : w.heap.size + 1 < w1.heap.size := by omega
 clear f2 f5 s0 s1 d0 hb1 e2 e3 l2 l3
 go_wp2_with fail
 go_region
 have B3 : Hid (Below w1.heap.size w1 (w1.alloc (.cells #[.int .i64 d] 3)).drew) := (Below.new _ _).drew
 have B4 : Hid (Below w.heap.size w (w1.alloc (.cells #[.int .i64 d] 3)).drew) := B2.out.trans (B3.out.mono (by omega))
 by_cases hd0 : d = 0
 · subst hd0
   go_wp2_with fail
   refine (has_c A2 c2 mr i _ (HP.out.au.mr.below IntE.stays B4.out) (by omega) HM.out).mono ?_
   rintro e w2 ⟨r,rfl,hr,rfl⟩
   have HR := Lib.hid hr
   clear hr
   go_wp2
   go_ret
   exact ⟨r,rfl,by rw [HR.out]; exact ⟨fun h => ⟨S.out,S1.out,fun _ => h,fun h => absurd rfl h⟩,fun h => h.2.2.1 rfl⟩,B4.out⟩
 · have hd0' : (d == 0) = false := by simpa using hd0
   by_cases hdp : 0 < d
   · go_wp2_with fail
     refine (containsE_c 59 _ (enters_of Try.func59 (by kernel_rfl) rfl) (keeps2P kp pl dist d) AE cE es _ (HE.out.below EdE.stays B4.out) lE
      (pred2 _ (w.heap.size + 1) (w.heap.size + 2) w1.heap.size Ak (some ⟨b2,o2,none⟩) (some ⟨b3,o3,none⟩) ck cp cD kp pl dist d es n (old_cell B3.out s0' z1) (old_cell B3.out s1' z1) (HS.out.kp.below BoolE.stays B4.out) lk HN.out lp lD (by simp; omega)
        (old_cell B3.out d0' hsz1) (by simp; omega) (HD.out.below IntE.stays B4.out) (HS.out.pl.below IntE.stays B4.out) (new_cell w1 3 [.int .i64 d] _ 0 rfl) (by simp) HX.out HPL.out)).mono ?_
     rintro e w2 ⟨r,rfl,hr,hb2⟩
     have HR := Lib.hid hr
     clear hr
     go_wp2
     go_ret
     exact ⟨r,rfl,by rw [HR.out]; exact ⟨fun h => ⟨S.out,S1.out,fun h => absurd h hd0,fun _ => ⟨hdp,h⟩⟩,fun h => (h.2.2.2 hd0).2⟩,B4.out.trans (hb2.mono (by simp; omega))⟩
   · go_wp2
     go_ret
     exact Tells.no (fun h => by have := (h.2.2.2 hd0).1; omega) B4.out
end Go.Proofs.Ytccfcaejlohahaa
