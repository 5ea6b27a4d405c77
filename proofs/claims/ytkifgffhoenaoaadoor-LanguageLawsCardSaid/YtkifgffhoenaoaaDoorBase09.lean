/-
  Plain: where the edges of a state begin; the states from which others are reached.
  reach.newGraph.
  Queues among things that lie apart.
-/
import Derived.Test.YtkifgffhoenaoaaDoorBase08
import Derived.IntWalk
import Derived.Test.YtkifgffhoenaoaaDoorBase02
namespace Go.Proofs.YtkifgffhoenaoaaDoor
set_option linter.unusedSimpArgs false
set_option linter.unusedVariables false

/-! Where the edges of a state begin -/
/-- How many edges leave the state before j. -/
def cntS (l : List Ed) (j : Nat) : Nat := (l.filter fun x => decide (x.src + 1 = (j : Int))).length
/-- How many edges leave states before j. -/
def fstV (l : List Ed) (j : Nat) : Nat := (l.filter fun x => decide (x.src < (j : Int))).length
theorem cntS_le (l : List Ed) (j : Nat) : cntS l j ≤ l.length := List.length_filter_le _ _
theorem fstV_le (l : List Ed) (j : Nat) : fstV l j ≤ l.length := List.length_filter_le _ _
theorem cntS_snoc (l : List Ed) (x : Ed) (j : Nat) : cntS (l ++ [x]) j = if x.src + 1 = (j : Int) then cntS l j + 1 else cntS l j := by
  unfold cntS
  rw [List.filter_append, List.length_append]
  by_cases h : x.src + 1 = (j : Int) <;> simp [h]
theorem fstV_succ : ∀ (l : List Ed) (j : Nat), fstV l (j + 1) = fstV l j + cntS l (j + 1)
  | [], j => rfl
  | x :: l, j => by
    have ih := fstV_succ l j
    unfold fstV cntS at *
    simp only [List.filter_cons]
    by_cases h1 : x.src < (j : Int)
    · have h2 : x.src < ((j + 1 : Nat) : Int) := by omega
      have h3 : ¬ x.src + 1 = ((j + 1 : Nat) : Int) := by omega
      simp only [h1, h2, h3, decide_true, decide_false, if_true, List.length_cons]
      simp only [Bool.false_eq_true, if_false]
      omega
    · by_cases h2 : x.src < ((j + 1 : Nat) : Int)
      · have h3 : x.src + 1 = ((j + 1 : Nat) : Int) := by omega
        simp only [h1, h2, h3, decide_true, decide_false, if_true, List.length_cons]
        simp only [Bool.false_eq_true, if_false]
        omega
      · have h3 : ¬ x.src + 1 = ((j + 1 : Nat) : Int) := by omega
        simp only [h1, h2, h3, decide_true, decide_false]
        simp only [Bool.false_eq_true, if_false]
        omega
theorem fstV_zero {l : List Ed} (h : ∀ x, x ∈ l → 0 ≤ x.src) : fstV l 0 = 0 := by
  unfold fstV
  rw [List.filter_eq_nil_iff.2 (fun x hx => by have := h x hx; simp; omega)]; rfl
theorem cntS_zero {l : List Ed} (h : ∀ x, x ∈ l → 0 ≤ x.src) : cntS l 0 = 0 := by
  unfold cntS
  rw [List.filter_eq_nil_iff.2 (fun x hx => by have := h x hx; simp; omega)]; rfl
def SrcUp (l : List Ed) : Prop := l.Pairwise fun x y => x.src ≤ y.src
theorem SrcUp.take_drop : ∀ {l : List Ed}, SrcUp l → ∀ s : Int, l.take (l.filter fun x => decide (x.src < s)).length = l.filter (fun x => decide (x.src < s)) ∧ l.drop (l.filter fun x => decide (x.src < s)).length = l.filter (fun x => decide (s ≤ x.src))
  | [], _, s => ⟨rfl, rfl⟩
  | x :: l, h, s => by
    obtain ⟨h1, h2⟩ := List.pairwise_cons.1 h
    by_cases e : x.src < s
    · have ih := SrcUp.take_drop h2 s
      have e' : ¬ s ≤ x.src := by omega
      simp only [List.filter_cons, e, e', decide_true, decide_false, if_true, List.length_cons, List.take_succ_cons, List.drop_succ_cons]
      simp only [Bool.false_eq_true, if_false]
      exact ⟨by rw [ih.1], ih.2⟩
    · have e' : s ≤ x.src := by omega
      have n1 : l.filter (fun x => decide (x.src < s)) = [] := List.filter_eq_nil_iff.2 fun y hy => by have := h1 y hy; simp; omega
      have n2 : l.filter (fun x => decide (s ≤ x.src)) = l := List.filter_eq_self.2 fun y hy => by have := h1 y hy; simp; omega
      simp only [List.filter_cons, e, e', decide_true, decide_false, if_true, n1, n2]
      simp
theorem outOf_range {l : List Ed} (h : SrcUp l) (s : Nat) : outOf l s = (l.take (fstV l (s + 1))).drop (fstV l s) := by
  have h1 := (h.take_drop ((s + 1 : Nat) : Int)).1
  have h2 : SrcUp (l.filter fun x => decide (x.src < ((s + 1 : Nat) : Int))) := h.filter _
  have h3 := (h2.take_drop (s : Int)).2
  have e1 : (l.filter fun x => decide (x.src < ((s + 1 : Nat) : Int))).filter (fun x => decide (x.src < (s : Int))) = l.filter fun x => decide (x.src < (s : Int)) := by
    rw [List.filter_filter]
    refine List.filter_congr fun x _ => ?_
    by_cases g : x.src < (s : Int)
    · have : x.src < ((s + 1 : Nat) : Int) := by omega
      simp only [g, this, decide_true, Bool.and_self]
    · simp only [g, decide_false, Bool.false_and]
  rw [e1] at h3
  unfold fstV
  rw [h1, h3, List.filter_filter]
  unfold outOf
  refine List.filter_congr fun x _ => ?_
  rw [Bool.eq_iff_iff]
  simp
  omega
theorem fstV_mono (l : List Ed) (s : Nat) : fstV l s ≤ fstV l (s + 1) := by rw [fstV_succ]; omega
theorem Au.Right.srcUp {a : Au} (hr : a.Right) : SrcUp a.ed := List.pairwise_iff_getElem.2 fun i j hi hj hij => by
  rcases hr.lex i j _ _ hij (List.getElem?_eq_getElem hi) (List.getElem?_eq_getElem hj) with h | h <;> omega
theorem outOf_size {a : Au} (hr : a.Right) (s : Nat) : (outOf a.ed s).length = fstV a.ed (s + 1) - fstV a.ed s := by
  rw [outOf_range hr.srcUp, List.length_drop, List.length_take]
  have := fstV_le a.ed (s + 1)
  omega
theorem outOf_at {a : Au} (hr : a.Right) (s t : Nat) (h : t < fstV a.ed (s + 1) - fstV a.ed s) : (outOf a.ed s)[t]? = a.ed[fstV a.ed s + t]? := by
  rw [outOf_range hr.srcUp, List.getElem?_drop, List.getElem?_take, if_pos (by omega)]

theorem rises_len' {n : Nat} {l : List Int} (h : Rises (fun x y : Int => x < y) l) (hr : ∀ x, x ∈ l → 0 ≤ x ∧ x < n) : l.length ≤ n := by
  have key : ∀ (i : Nat) x, l[i]? = some x → (i : Int) ≤ x := by
    intro i
    induction i with
    | zero => intro x hx; exact (hr x (List.mem_of_getElem? hx)).1
    | succ i ih =>
      intro x hx
      have hi := (List.getElem?_eq_some_iff.1 hx).1
      have h1 := ih _ (List.getElem?_eq_getElem (show i < l.length by omega))
      have h2 := h i (i + 1) _ x (by omega) (List.getElem?_eq_getElem (show i < l.length by omega)) hx
      omega
  rcases Nat.eq_zero_or_pos l.length with e | e
  · omega
  · have h1 := key (l.length - 1) _ (List.getElem?_eq_getElem (by omega))
    have h2 := hr _ (List.getElem_mem (show l.length - 1 < l.length by omega))
    omega
theorem outOf_32' {a : Au} (hr : a.Right) (s : Nat) : (outOf a.ed s).length ≤ 32 := by
  have := rises_len' (n := 32) (l := (outOf a.ed s).map (·.ev)) (fun i j x y hij hx hy => by
    rw [List.getElem?_map, Option.map_eq_some_iff] at hx hy
    obtain ⟨u, hu, rfl⟩ := hx
    obtain ⟨v, hv, rfl⟩ := hy
    exact outOf_rises hr s i j u v hij hu hv) (fun x hx => by
    obtain ⟨u, hu, rfl⟩ := List.mem_map.1 hx
    obtain ⟨p, hp, hpx⟩ := List.mem_iff_getElem.1 (mem_outOf.1 hu).1
    have h1 := (hr.edge (p := p) (by rw [List.getElem?_eq_getElem hp, hpx])).2.2.2.2
    obtain ⟨i, hi, hix⟩ := List.mem_iff_getElem.1 h1
    have := hr.al i _ hi (List.getElem?_eq_getElem hi)
    rw [hix] at this
    exact ⟨this.1, this.2.1⟩)
  simpa using this
theorem fstV_32 {a : Au} (hr : a.Right) : ∀ j : Nat, fstV a.ed j ≤ 32 * j
  | 0 => by rw [fstV_zero (fun x hx => by
      obtain ⟨p, hp, hpx⟩ := List.mem_iff_getElem.1 hx
      exact (hr.edge (p := p) (by rw [List.getElem?_eq_getElem hp, hpx])).1)]; exact Nat.le_refl _
  | j + 1 => by
    have h1 := fstV_32 hr j
    have h2 := outOf_32' hr j
    rw [outOf_size hr] at h2
    omega
theorem fstV_all {a : Au} (hr : a.Right) : fstV a.ed a.n.toNat = a.ed.length := by
  unfold fstV
  rw [List.filter_eq_self.2 (fun x hx => by
    obtain ⟨p, hp, hpx⟩ := List.mem_iff_getElem.1 hx
    have := (hr.edge (p := p) (by rw [List.getElem?_eq_getElem hp, hpx])).2.1
    simp; omega)]
theorem ed_len {a : Au} (hr : a.Right) : a.ed.length ≤ 131072 := by
  have h1 := fstV_32 hr a.n.toNat
  rw [fstV_all hr] at h1
  have := hr.n1
  omega

/-! What is kept of a list -/
theorem filter_at {α : Type} (p : α → Bool) : ∀ (l : List α) (t : Nat) (x : α), l[t]? = some x → p x = true → (l.filter p)[((l.take t).filter p).length]? = some x
  | [], t, x, h, _ => by simp at h
  | y :: l, 0, x, h, hp => by
    simp at h; subst h
    simp [hp]
  | y :: l, t + 1, x, h, hp => by
    have ih := filter_at p l t x (by simpa using h) hp
    rw [List.take_succ_cons, List.filter_cons, List.filter_cons]
    split
    · simpa using ih
    · exact ih
theorem filter_snoc {α : Type} (p : α → Bool) (l : List α) (t : Nat) (x : α) (h : l[t]? = some x) : ((l.take (t + 1)).filter p).length = if p x then ((l.take t).filter p).length + 1 else ((l.take t).filter p).length := by
  rw [List.take_add_one, h, List.filter_append, List.length_append]
  by_cases g : p x = true <;> simp [g]
/-- How many of the first t edges of a state lead to a state that is kept. -/
def kth (a : Au) (keep : Int → Bool) (v : Int) (t : Nat) : Nat := (((outOf a.ed v.toNat).take t).filter fun x => keep x.dst).length
theorem kth_zero (a : Au) (keep : Int → Bool) (v : Int) : kth a keep v 0 = 0 := rfl
theorem kth_get {a : Au} {keep : Int → Bool} {v : Int} {t : Nat} {x : Ed} (h : (outOf a.ed v.toNat)[t]? = some x) (hk : keep x.dst = true) : (outK a keep v)[kth a keep v t]? = some (x.ev, x.dst) := by
  unfold outK kth
  rw [List.getElem?_map, filter_at _ _ t x h hk]; rfl
theorem kth_yes {a : Au} {keep : Int → Bool} {v : Int} {t : Nat} {x : Ed} (h : (outOf a.ed v.toNat)[t]? = some x) (hk : keep x.dst = true) : kth a keep v (t + 1) = kth a keep v t + 1 := by
  unfold kth
  rw [filter_snoc _ _ t x h, if_pos hk]
theorem kth_no {a : Au} {keep : Int → Bool} {v : Int} {t : Nat} {x : Ed} (h : (outOf a.ed v.toNat)[t]? = some x) (hk : keep x.dst = false) : kth a keep v (t + 1) = kth a keep v t := by
  unfold kth
  rw [filter_snoc _ _ t x h, if_neg (by simp [hk])]
theorem kth_all (a : Au) (keep : Int → Bool) (v : Int) : kth a keep v (outOf a.ed v.toNat).length = (outK a keep v).length := by
  unfold kth outK
  rw [List.take_length, List.length_map]

/-! States from which others are reached -/
def predsOf (l : List Ed) (s : Nat) : List Int := (l.filter fun x => decide (x.dst = (s : Int))).map (·.src)
theorem predsOf_snoc (l : List Ed) (x : Ed) (s : Nat) : predsOf (l ++ [x]) s = if x.dst = (s : Int) then predsOf l s ++ [x.src] else predsOf l s := by
  unfold predsOf
  rw [List.filter_append, List.map_append]
  by_cases h : x.dst = (s : Int) <;> simp [h]
theorem mem_predsOf {l : List Ed} {s : Nat} {p : Int} : p ∈ predsOf l s ↔ ∃ x, x ∈ l ∧ x.dst = (s : Int) ∧ x.src = p := by
  unfold predsOf
  simp only [List.mem_map, List.mem_filter, decide_eq_true_eq]
  constructor
  · rintro ⟨x, ⟨h1, h2⟩, h3⟩; exact ⟨x, h1, h2, h3⟩
  · rintro ⟨x, h1, h2, h3⟩; exact ⟨x, ⟨h1, h2⟩, h3⟩
theorem predsOf_len (l : List Ed) (s : Nat) : (predsOf l s).length ≤ l.length := by
  unfold predsOf; rw [List.length_map]; exact List.length_filter_le _ _
/-- What has been found backwards: the states before h, and the first k edges into the state h. -/
structure Bwd (a : Au) (N : Nat) (tq fs : List Int) (d : Nat → Int) (h k : Nat) : Prop where
  mem : ∀ s : Nat, s < N → (0 ≤ d s ↔ (s : Int) ∈ fs)
  le : ∀ (j : Nat) v, fs[j]? = some v → d v.toNat ≤ j
  nd : fs.Nodup
  rg : ∀ v, v ∈ fs → 0 ≤ v ∧ v < N
  snd : ∀ v, v ∈ fs → ∃ w, runV a.ed v w ∈ tq
  tgt : ∀ v, v ∈ tq → v ∈ fs
  cl : ∀ (j q : Nat) v p, fs[j]? = some v → (predsOf a.ed v.toNat)[q]? = some p → (j < h ∨ j = h ∧ q < k) → p ∈ fs
section
variable {a : Au} {N h k : Nat} {tq fs : List Int} {d : Nat → Int}
theorem Bwd.len (B : Bwd a N tq fs d h k) : fs.length ≤ N := by
  have := sub_len (fs.map Int.toNat) (List.range N) (by
    rw [List.nodup_iff_pairwise_ne, List.pairwise_map]
    have hp := List.nodup_iff_pairwise_ne.1 B.nd
    refine (List.Pairwise.imp_of_mem ?_ hp)
    intro x y hx hy hxy
    have := B.rg x hx; have := B.rg y hy
    omega) (fun x hx => by
    obtain ⟨v, hv, rfl⟩ := List.mem_map.1 hx
    have := B.rg v hv
    simp; omega)
  simpa using this
theorem Bwd.next (B : Bwd a N tq fs d h k) {v : Int} (hv : fs[h]? = some v) (hk : (predsOf a.ed v.toNat).length ≤ k) : Bwd a N tq fs d (h + 1) 0 :=
  ⟨B.mem, B.le, B.nd, B.rg, B.snd, B.tgt, fun j q u p hu hp hc => by
    by_cases g : j < h
    · exact B.cl j q u p hu hp (.inl g)
    · obtain rfl : j = h := by omega
      rw [hv] at hu; cases hu
      have := (List.getElem?_eq_some_iff.1 hp).1
      exact B.cl j q v p hv hp (.inr ⟨rfl, by omega⟩)⟩
theorem Bwd.old (B : Bwd a N tq fs d h k) {v p : Int} (hv : fs[h]? = some v) (hp : (predsOf a.ed v.toNat)[k]? = some p) (hm : p ∈ fs) : Bwd a N tq fs d h (k + 1) :=
  ⟨B.mem, B.le, B.nd, B.rg, B.snd, B.tgt, fun j q u p' hu hp' hc => by
    by_cases g : j < h ∨ j = h ∧ q < k
    · exact B.cl j q u p' hu hp' g
    · obtain ⟨rfl, rfl⟩ : j = h ∧ q = k := by omega
      rw [hv] at hu; cases hu
      rw [hp] at hp'; cases hp'
      exact hm⟩
theorem Bwd.new (hr : a.Right) (hN : a.n = N) (B : Bwd a N tq fs d h k) {v p : Int} (hv : fs[h]? = some v) (hp : (predsOf a.ed v.toNat)[k]? = some p) (hm : ¬ p ∈ fs) :
    Bwd a N tq (fs ++ [p]) (fun s => if s = p.toNat then d v.toNat + 1 else d s) h (k + 1) := by
  have hhl := (List.getElem?_eq_some_iff.1 hv).1
  have hvm := List.mem_of_getElem? hv
  have hvr := B.rg v hvm
  obtain ⟨x, hx, x1, x2⟩ := mem_predsOf.1 (List.mem_of_getElem? hp)
  have hn := edge_next hr hx
  have hp0 : 0 ≤ p ∧ p < N := by rw [← x2]; omega
  have hd0 : 0 ≤ d v.toNat := (B.mem v.toNat (by omega)).2 (by rw [Int.toNat_of_nonneg hvr.1]; exact hvm)
  refine ⟨fun s hs => ?_, fun j u hu => ?_, ?_, fun u hu => ?_, fun u hu => ?_, fun u hu => List.mem_append_left _ (B.tgt u hu), fun j q u p' hu hp' hc => ?_⟩
  · rw [List.mem_append, List.mem_singleton]
    by_cases e : s = p.toNat
    · rw [if_pos e]
      exact ⟨fun _ => .inr (by omega), fun _ => by omega⟩
    · rw [if_neg e, B.mem s hs]
      exact ⟨.inl, fun g => g.elim id fun g => by omega⟩
  · rcases getElem?_snoc hu with g | ⟨g, rfl⟩
    · have h1 := B.le j u g
      have h2 := B.rg u (List.mem_of_getElem? g)
      have : u ≠ p := fun e => hm (by rw [← e]; exact List.mem_of_getElem? g)
      rw [if_neg (by omega)]; exact h1
    · rw [if_pos rfl]
      have h1 := B.le h v hv
      omega
  · rw [List.nodup_append]
    exact ⟨B.nd, by simp, fun x hx y hy => by rw [List.mem_singleton.1 hy]; rintro rfl; exact hm hx⟩
  · rcases List.mem_append.1 hu with g | g
    · exact B.rg u g
    · rw [List.mem_singleton.1 g]; exact hp0
  · rcases List.mem_append.1 hu with g | g
    · exact B.snd u g
    · rw [List.mem_singleton.1 g]
      obtain ⟨w, hw⟩ := B.snd v hvm
      refine ⟨x.ev :: w, ?_⟩
      simp only [runV, hp0.1, if_true]
      rw [← x2, hn.1, x1, Int.toNat_of_nonneg hvr.1]
      exact hw
  · rcases getElem?_snoc hu with g | ⟨g, rfl⟩
    · by_cases c : j < h ∨ j = h ∧ q < k
      · exact List.mem_append_left _ (B.cl j q u p' g hp' c)
      · obtain ⟨rfl, rfl⟩ : j = h ∧ q = k := by omega
        rw [hv] at g; cases g
        rw [hp] at hp'; cases hp'
        simp
    · omega
theorem Bwd.start (hnd : tq.Nodup) (hrg : ∀ v, v ∈ tq → 0 ≤ v ∧ v < N) : Bwd a N tq tq (fun s => if (s : Int) ∈ tq then 0 else -1) 0 0 :=
  ⟨fun s _ => by by_cases g : (s : Int) ∈ tq <;> simp [g], fun j v hv => by
    have := hrg v (List.mem_of_getElem? hv)
    rw [Int.toNat_of_nonneg this.1, if_pos (List.mem_of_getElem? hv)]; omega, hnd, hrg, fun v hv => ⟨[], hv⟩, fun _ h => h, fun j q v p _ _ h => by omega⟩
theorem Bwd.fin (hr : a.Right) (hN : a.n = N) (hto : ∀ v, v ∈ tq → 0 ≤ v) (B : Bwd a N tq fs d fs.length k) {s : Nat} (hs : s < N) : 0 ≤ d s ↔ ∃ w, runV a.ed s w ∈ tq := by
  rw [B.mem s hs]
  constructor
  · exact B.snd _
  · rintro ⟨w, hw⟩
    have key : ∀ (w : List Int) (v : Int), 0 ≤ v → runV a.ed v w ∈ tq → v ∈ fs := by
      intro w
      induction w with
      | nil => intro v _ h; exact B.tgt v h
      | cons e r ih =>
        intro v hv h
        simp only [runV, hv, if_true] at h
        rcases hr.next_cases v e with g | ⟨g0, g1, x, hx, x1, x2, x3⟩
        · rw [g, runV_neg _ (by omega)] at h
          have := hto _ h; omega
        · have hu := ih _ g0 h
          obtain ⟨j, hj, hju⟩ := List.mem_iff_getElem.1 hu
          have hpm : v ∈ predsOf a.ed (nextV a.ed v e).toNat := mem_predsOf.2 ⟨x, hx, by rw [x3, Int.toNat_of_nonneg g0], x1⟩
          obtain ⟨q, hq, hqv⟩ := List.mem_iff_getElem.1 hpm
          exact B.cl j q _ v (by rw [List.getElem?_eq_getElem hj, hju]) (by rw [List.getElem?_eq_getElem hq, hqv]) (.inl hj)
    exact key w s (Int.natCast_nonneg _) hw
end
end Go.Proofs.YtkifgffhoenaoaaDoor

namespace Go.Proofs.YtkifgffhoenaoaaDoor
open Go.RowKit
set_option linter.unusedSimpArgs false
set_option linter.unusedVariables false
set_option maxRecDepth 100000

/-- A graph's cells. -/
def grCells (a : Au) (p : AuP) (g : Nat) : List Value := [.slice p.A1 a.al.length p.c1, .int .i64 a.n, .slice p.A2 a.mr.length p.c2, .slice p.A3 a.ed.length p.c3, .slice (some ⟨g, 0, none⟩) (a.n.toNat + 1) (a.n.toNat + 1)]
/-- What newGraph gives. -/
def GivesGr (a : Au) (p : AuP) (w : World) (e : Ending) (w' : World) : Prop := ∃ g, e = .returned (.agg (grCells a p g).toArray) ∧ Hid (Sep w.heap.size w [eBlk g 3 (mkI (a.n.toNat + 1) fun j => (fstV a.ed j : Int))] w')
set_option maxHeartbeats 4000000 in
theorem newGraph_c (a : Au) (p : AuP) (w : World) (hr : a.Right) (hA : Au.At w a p) :
    Calls Tryd.prog 102 #[a.val p] w (GivesGr a p w) := by
  have h0 := hr.n0
  have hn := hr.n1
  have HS : Hid (∀ (i : Nat) x, a.ed[i]? = some x → 0 ≤ x.src ∧ x.src < a.n) := fun i x hx => ⟨(hr.edge hx).1, (hr.edge hx).2.1⟩
  have HE := Lib.hid hA.ed
  have hle := hA.led
  obtain ⟨al, n, mr, ed⟩ := a
  obtain ⟨A1, c1, A2, c2, A3, c3⟩ := p
  obtain ⟨N, rfl⟩ := Int.eq_ofNat_of_zero_le h0
  dsimp only [Au.val] at HS hn HE hle ⊢
  have HS0 : Hid (∀ x, x ∈ ed → 0 ≤ x.src) := fun x hx => by
    obtain ⟨i, hi, hix⟩ := List.mem_iff_getElem.1 hx
    exact (HS.out i x (by rw [List.getElem?_eq_getElem hi, hix])).1
  skip
  have hmk := make_run (P := Tryd.prog) 32 3 (.int .i64 0) 8 Tryd.underlying32 intInfo rfl (N + 1) (by omega) (by omega)
  have hwr : IntKind.i64.wrap ((N : Int) + 1) = (N : Int) + 1 := IntWalk.i64_in _ (by omega)
  push_cast at hmk
  clear hr hA h0
  go_enter Tryd.func102, Tryd.ntmps102
  go_upto_region 1 with fail
  refine wp_world (fun W => Sep w.heap.size w [eBlk (w.heap.size + 1) 138 [.slice none 0 0, .int .i64 0, .slice none 0 0, .slice none 0 0, .slice none 0 0], eBlk w.heap.size 35 [.slice A1 al.length c1, .int .i64 (N : Int), .slice A2 mr.length c2, .slice A3 ed.length c3]] W) ?_ fun W S => ?_
  · exact ((Sep.here w).alloc' _ [_, _, _, _] rfl rfl).alloc' _ [_, _, _, _, _] rfl (by simp)
  have S0 := Lib.hid S
  clear S
  go_cut [3] (fun v wx => ∃ nb gb, v = .pointer (some ⟨nb, 0, none⟩) ∧ Hid (Sep w.heap.size w [eBlk nb 138 [.slice A1 al.length c1, .int .i64 (N : Int), .slice A2 mr.length c2, .slice A3 ed.length c3, .slice (some ⟨gb, 0, none⟩) (N + 1) (N + 1)], eBlk gb 3 (mkI (N + 1) fun _ => 0), eBlk (w.heap.size + 1) 138 [.slice none 0 0, .int .i64 0, .slice none 0 0, .slice none 0 0, .slice none 0 0], eBlk w.heap.size 35 [.slice A1 al.length c1, .int .i64 (N : Int), .slice A2 mr.length c2, .slice A3 ed.length c3]] wx))
  case first =>
    have S1 := Lib.hid S0.out.drew
    refine wp_region_held_drew (S := (fun V => Sep w.heap.size w [eBlk w.heap.size 35 [.slice A1 al.length c1, .int .i64 (N : Int), .slice A2 mr.length c2, .slice A3 ed.length c3]] V)) (by kernel_rfl) ?_ (fun hHeld => ?_)
    · exact S1.out.pick [1] (by decide)
    generalize hwz : W.drew = w1 at *
    clear hwz
    refine wpAnyH_take (i := 0) (v := ?_) rfl (by kernel_rfl) (by kernel_rfl) (by kernel_rfl) (fun _ _ _ h => h) (Or.inl ⟨?_, ?_⟩) hHeld ?_
    rotate_left
    · kernel_rfl
    · intro V hSw
      have b0 := BlkAt.cell (Sep.get (show Sep w.heap.size w _ V from hSw) 0 rfl) 0
      have b1 := BlkAt.cell (Sep.get (show Sep w.heap.size w _ V from hSw) 0 rfl) 1
      have b2 := BlkAt.cell (Sep.get (show Sep w.heap.size w _ V from hSw) 0 rfl) 2
      have b3 := BlkAt.cell (Sep.get (show Sep w.heap.size w _ V from hSw) 0 rfl) 3
      simp only [List.getElem?_cons_succ, List.getElem?_cons_zero] at b0 b1 b2 b3
      clear hSw
      first | (go_simp; done) | (go_simp; with_reducible rfl)
    try simp only [List.getElem_toArray, List.getElem_cons_zero, List.getElem_cons_succ, Act.put, List.setIfInBounds_toArray, List.set_cons_zero, List.set_cons_succ]
    refine wpAnyH_take (i := 1) (v := ?_) rfl (by kernel_rfl) (by kernel_rfl) (by kernel_rfl) (fun _ _ _ h => h) (Or.inl ⟨?_, ?_⟩) hHeld ?_
    rotate_left
    · kernel_rfl
    · intro V hSw
      clear hSw
      first | (go_simp; done) | (go_simp; with_reducible rfl)
    try simp only [List.getElem_toArray, List.getElem_cons_zero, List.getElem_cons_succ, Act.put, List.setIfInBounds_toArray, List.set_cons_zero, List.set_cons_succ]
    refine wpAnyH_take (i := 2) (v := ?_) rfl (by kernel_rfl) (by kernel_rfl) (by kernel_rfl) (fun _ _ _ h => h) (Or.inl ⟨?_, ?_⟩) hHeld ?_
    rotate_left
    · kernel_rfl
    · intro V hSw
      have b0 := BlkAt.cell (Sep.get (show Sep w.heap.size w _ V from hSw) 0 rfl) 0
      have b1 := BlkAt.cell (Sep.get (show Sep w.heap.size w _ V from hSw) 0 rfl) 1
      have b2 := BlkAt.cell (Sep.get (show Sep w.heap.size w _ V from hSw) 0 rfl) 2
      have b3 := BlkAt.cell (Sep.get (show Sep w.heap.size w _ V from hSw) 0 rfl) 3
      simp only [List.getElem?_cons_succ, List.getElem?_cons_zero] at b0 b1 b2 b3
      clear hSw
      first | (go_simp; done) | (go_simp; with_reducible rfl)
    try simp only [List.getElem_toArray, List.getElem_cons_zero, List.getElem_cons_succ, Act.put, List.setIfInBounds_toArray, List.set_cons_zero, List.set_cons_succ]
    refine wpAnyH_take (i := 3) (v := ?_) rfl (by kernel_rfl) (by kernel_rfl) (by kernel_rfl) (fun _ _ _ h => h) (Or.inl ⟨?_, ?_⟩) hHeld ?_
    rotate_left
    · kernel_rfl
    · intro V hSw
      clear hSw
      first | (go_simp; done) | (go_simp; with_reducible rfl)
    try simp only [List.getElem_toArray, List.getElem_cons_zero, List.getElem_cons_succ, Act.put, List.setIfInBounds_toArray, List.set_cons_zero, List.set_cons_succ]
    refine wpAnyH_ready (rs := [4, 6]) (by kernel_rfl) (by simp) ?_
    refine AllReadyH.cons rfl (fun K hK => ?_) (AllReadyH.cons rfl (fun K hK => ?_) AllReadyH.nil)
    · skip
      go_simp
      obtain ⟨gb, hgb⟩ : ∃ n, n = w1.heap.size := ⟨_, rfl⟩
      obtain ⟨w2, hw2⟩ : ∃ v, v = w1.alloc (.cells (List.replicate (N + 1) (Value.int .i64 0)).toArray 3) := ⟨_, rfl⟩
      have hw2' := hw2
      simp only [List.toArray_replicate] at hw2'
      first | rw [← hw2, ← hgb] | rw [← hw2', ← hgb]
      have S2 : Hid (Sep w.heap.size w [eBlk gb 3 (mkI (N + 1) fun _ => 0), eBlk (w.heap.size + 1) 138 [.slice none 0 0, .int .i64 0, .slice none 0 0, .slice none 0 0, .slice none 0 0], eBlk w.heap.size 35 [.slice A1 al.length c1, .int .i64 (N : Int), .slice A2 mr.length c2, .slice A3 ed.length c3]] w2) := by rw [hw2, hgb, ← mkI_rep]; exact S1.out.alloc _ _
      clear hw2 hw2' hgb
      refine hK.out _ _ ?_ (fun hHeld => ?_)
      · exact S2.out.pick [2] (by decide)
      clear hK K
      try simp only [List.getElem_toArray, List.getElem_cons_zero, List.getElem_cons_succ, Act.put, List.setIfInBounds_toArray, List.set_cons_zero, List.set_cons_succ]
      refine wpAnyH_take (i := 5) (v := ?_) rfl (by kernel_rfl) (by kernel_rfl) (by kernel_rfl) (fun _ _ _ h => h) (Or.inl ⟨?_, ?_⟩) hHeld ?_
      rotate_left
      · kernel_rfl
      · intro V hSw
        clear hSw
        first | (go_simp; done) | (go_simp; with_reducible rfl)
      try simp only [List.getElem_toArray, List.getElem_cons_zero, List.getElem_cons_succ, Act.put, List.setIfInBounds_toArray, List.set_cons_zero, List.set_cons_succ]
      refine wpAnyH_ready (rs := [6]) (by kernel_rfl) (by simp) ?_
      refine AllReadyH.cons rfl (fun K hK => ?_) AllReadyH.nil
      go_simp
      obtain ⟨nnb, hnnb⟩ : ∃ n, n = w2.heap.size := ⟨_, rfl⟩
      obtain ⟨w3, hw3⟩ : ∃ v, v = w2.alloc (.cells #[.slice none 0 0, .int .i64 0, .slice none 0 0, .slice none 0 0, .slice none 0 0] 138) := ⟨_, rfl⟩
      rw [← hw3, ← hnnb]
      have S3 : Hid (Sep w.heap.size w [eBlk nnb 138 [.slice none 0 0, .int .i64 0, .slice none 0 0, .slice none 0 0, .slice none 0 0], eBlk gb 3 (mkI (N + 1) fun _ => 0), eBlk (w.heap.size + 1) 138 [.slice none 0 0, .int .i64 0, .slice none 0 0, .slice none 0 0, .slice none 0 0], eBlk w.heap.size 35 [.slice A1 al.length c1, .int .i64 (N : Int), .slice A2 mr.length c2, .slice A3 ed.length c3]] w3) := by rw [hw3, hnnb]; exact S2.out.alloc 138 [.slice none 0 0, .int .i64 0, .slice none 0 0, .slice none 0 0, .slice none 0 0]
      skip
      clear hw3 hnnb
      refine hK.out _ _ ?_ (fun hHeld => ?_)
      · exact S3.out.pick [3] (by decide)
      clear hK K
      try simp only [List.getElem_toArray, List.getElem_cons_zero, List.getElem_cons_succ, Act.put, List.setIfInBounds_toArray, List.set_cons_zero, List.set_cons_succ]
      refine wpAnyH_ready (rs := [7]) (by kernel_rfl) (by simp) ?_
      refine AllReadyH.cons rfl (fun K hK => ?_) AllReadyH.nil
      have sc0 := BlkAt.cell (S3.out.get 0 rfl) 0
      have sf0 := BlkAt.free (S3.out.get 0 rfl) 0
      have sc1 := BlkAt.cell (S3.out.get 0 rfl) 1
      have sf1 := BlkAt.free (S3.out.get 0 rfl) 1
      have sc2 := BlkAt.cell (S3.out.get 0 rfl) 2
      have sf2 := BlkAt.free (S3.out.get 0 rfl) 2
      have sc3 := BlkAt.cell (S3.out.get 0 rfl) 3
      have sf3 := BlkAt.free (S3.out.get 0 rfl) 3
      have sc4 := BlkAt.cell (S3.out.get 0 rfl) 4
      have sf4 := BlkAt.free (S3.out.get 0 rfl) 4
      simp only [List.getElem?_cons_succ, List.getElem?_cons_zero] at sc0 sc1 sc2 sc3 sc4
      go_simp
      obtain ⟨w4, hw4⟩ : ∃ v, v = (((((w3.setCell ⟨nnb, 0, none⟩ (.slice A1 al.length c1)).setCell ⟨nnb, 1, none⟩ (.int .i64 (N : Int))).setCell ⟨nnb, 2, none⟩ (.slice A2 mr.length c2)).setCell ⟨nnb, 3, none⟩ (.slice A3 ed.length c3)).setCell ⟨nnb, 4, none⟩ (.slice (some ⟨gb, 0, none⟩) (N + 1) (N + 1))) := ⟨_, rfl⟩
      rw [← hw4]
      have S4 : Hid (Sep w.heap.size w [eBlk nnb 138 [.slice A1 al.length c1, .int .i64 (N : Int), .slice A2 mr.length c2, .slice A3 ed.length c3, .slice (some ⟨gb, 0, none⟩) (N + 1) (N + 1)], eBlk gb 3 (mkI (N + 1) fun _ => 0), eBlk (w.heap.size + 1) 138 [.slice none 0 0, .int .i64 0, .slice none 0 0, .slice none 0 0, .slice none 0 0], eBlk w.heap.size 35 [.slice A1 al.length c1, .int .i64 (N : Int), .slice A2 mr.length c2, .slice A3 ed.length c3]] w4) := by rw [hw4]; exact (((((S3.out.set 0 rfl 0 (.slice A1 al.length c1)).set 0 rfl 1 (.int .i64 (N : Int))).set 0 rfl 2 (.slice A2 mr.length c2)).set 0 rfl 3 (.slice A3 ed.length c3)).set 0 rfl 4 (.slice (some ⟨gb, 0, none⟩) (N + 1) (N + 1)))
      clear hw4 sc0 sc1 sc2 sc3 sc4 sf0 sf1 sf2 sf3 sf4
      refine hK.out _ _ ?_ (fun hHeld => ?_)
      · exact S4.out.pick [3] (by decide)
      clear hK K
      try simp only [List.getElem_toArray, List.getElem_cons_zero, List.getElem_cons_succ, Act.put, List.setIfInBounds_toArray, List.set_cons_zero, List.set_cons_succ]
      refine wpAnyH_done (by kernel_rfl) ?_ _
      go_wp2_with fail
      go_meet
      exact ⟨nnb, gb, rfl, S4.out.pick [0, 1, 2, 3] (by decide)⟩
    · skip
      go_simp
      obtain ⟨nnb, hnnb⟩ : ∃ n, n = w1.heap.size := ⟨_, rfl⟩
      obtain ⟨w5, hw5⟩ : ∃ v, v = w1.alloc (.cells #[.slice none 0 0, .int .i64 0, .slice none 0 0, .slice none 0 0, .slice none 0 0] 138) := ⟨_, rfl⟩
      rw [← hw5, ← hnnb]
      have S5 : Hid (Sep w.heap.size w [eBlk nnb 138 [.slice none 0 0, .int .i64 0, .slice none 0 0, .slice none 0 0, .slice none 0 0], eBlk (w.heap.size + 1) 138 [.slice none 0 0, .int .i64 0, .slice none 0 0, .slice none 0 0, .slice none 0 0], eBlk w.heap.size 35 [.slice A1 al.length c1, .int .i64 (N : Int), .slice A2 mr.length c2, .slice A3 ed.length c3]] w5) := by rw [hw5, hnnb]; exact S1.out.alloc 138 [.slice none 0 0, .int .i64 0, .slice none 0 0, .slice none 0 0, .slice none 0 0]
      skip
      clear hw5 hnnb
      refine hK.out _ _ ?_ (fun hHeld => ?_)
      · exact S5.out.pick [2] (by decide)
      clear hK K
      try simp only [List.getElem_toArray, List.getElem_cons_zero, List.getElem_cons_succ, Act.put, List.setIfInBounds_toArray, List.set_cons_zero, List.set_cons_succ]
      refine wpAnyH_ready (rs := [4]) (by kernel_rfl) (by simp) ?_
      refine AllReadyH.cons rfl (fun K hK => ?_) AllReadyH.nil
      go_simp
      obtain ⟨gb, hgb⟩ : ∃ n, n = w5.heap.size := ⟨_, rfl⟩
      obtain ⟨w6, hw6⟩ : ∃ v, v = w5.alloc (.cells (List.replicate (N + 1) (Value.int .i64 0)).toArray 3) := ⟨_, rfl⟩
      have hw6' := hw6
      simp only [List.toArray_replicate] at hw6'
      first | rw [← hw6, ← hgb] | rw [← hw6', ← hgb]
      have S6 : Hid (Sep w.heap.size w [eBlk gb 3 (mkI (N + 1) fun _ => 0), eBlk nnb 138 [.slice none 0 0, .int .i64 0, .slice none 0 0, .slice none 0 0, .slice none 0 0], eBlk (w.heap.size + 1) 138 [.slice none 0 0, .int .i64 0, .slice none 0 0, .slice none 0 0, .slice none 0 0], eBlk w.heap.size 35 [.slice A1 al.length c1, .int .i64 (N : Int), .slice A2 mr.length c2, .slice A3 ed.length c3]] w6) := by rw [hw6, hgb, ← mkI_rep]; exact S5.out.alloc _ _
      clear hw6 hw6' hgb
      refine hK.out _ _ ?_ (fun hHeld => ?_)
      · exact S6.out.pick [3] (by decide)
      clear hK K
      try simp only [List.getElem_toArray, List.getElem_cons_zero, List.getElem_cons_succ, Act.put, List.setIfInBounds_toArray, List.set_cons_zero, List.set_cons_succ]
      refine wpAnyH_take (i := 5) (v := ?_) rfl (by kernel_rfl) (by kernel_rfl) (by kernel_rfl) (fun _ _ _ h => h) (Or.inl ⟨?_, ?_⟩) hHeld ?_
      rotate_left
      · kernel_rfl
      · intro V hSw
        clear hSw
        first | (go_simp; done) | (go_simp; with_reducible rfl)
      try simp only [List.getElem_toArray, List.getElem_cons_zero, List.getElem_cons_succ, Act.put, List.setIfInBounds_toArray, List.set_cons_zero, List.set_cons_succ]
      refine wpAnyH_ready (rs := [7]) (by kernel_rfl) (by simp) ?_
      refine AllReadyH.cons rfl (fun K hK => ?_) AllReadyH.nil
      have sc0 := BlkAt.cell (S6.out.get 1 rfl) 0
      have sf0 := BlkAt.free (S6.out.get 1 rfl) 0
      have sc1 := BlkAt.cell (S6.out.get 1 rfl) 1
      have sf1 := BlkAt.free (S6.out.get 1 rfl) 1
      have sc2 := BlkAt.cell (S6.out.get 1 rfl) 2
      have sf2 := BlkAt.free (S6.out.get 1 rfl) 2
      have sc3 := BlkAt.cell (S6.out.get 1 rfl) 3
      have sf3 := BlkAt.free (S6.out.get 1 rfl) 3
      have sc4 := BlkAt.cell (S6.out.get 1 rfl) 4
      have sf4 := BlkAt.free (S6.out.get 1 rfl) 4
      simp only [List.getElem?_cons_succ, List.getElem?_cons_zero] at sc0 sc1 sc2 sc3 sc4
      go_simp
      obtain ⟨w7, hw7⟩ : ∃ v, v = (((((w6.setCell ⟨nnb, 0, none⟩ (.slice A1 al.length c1)).setCell ⟨nnb, 1, none⟩ (.int .i64 (N : Int))).setCell ⟨nnb, 2, none⟩ (.slice A2 mr.length c2)).setCell ⟨nnb, 3, none⟩ (.slice A3 ed.length c3)).setCell ⟨nnb, 4, none⟩ (.slice (some ⟨gb, 0, none⟩) (N + 1) (N + 1))) := ⟨_, rfl⟩
      rw [← hw7]
      have S7 : Hid (Sep w.heap.size w [eBlk gb 3 (mkI (N + 1) fun _ => 0), eBlk nnb 138 [.slice A1 al.length c1, .int .i64 (N : Int), .slice A2 mr.length c2, .slice A3 ed.length c3, .slice (some ⟨gb, 0, none⟩) (N + 1) (N + 1)], eBlk (w.heap.size + 1) 138 [.slice none 0 0, .int .i64 0, .slice none 0 0, .slice none 0 0, .slice none 0 0], eBlk w.heap.size 35 [.slice A1 al.length c1, .int .i64 (N : Int), .slice A2 mr.length c2, .slice A3 ed.length c3]] w7) := by rw [hw7]; exact (((((S6.out.set 1 rfl 0 (.slice A1 al.length c1)).set 1 rfl 1 (.int .i64 (N : Int))).set 1 rfl 2 (.slice A2 mr.length c2)).set 1 rfl 3 (.slice A3 ed.length c3)).set 1 rfl 4 (.slice (some ⟨gb, 0, none⟩) (N + 1) (N + 1)))
      clear hw7 sc0 sc1 sc2 sc3 sc4 sf0 sf1 sf2 sf3 sf4
      refine hK.out _ _ ?_ (fun hHeld => ?_)
      · exact S7.out.pick [3] (by decide)
      clear hK K
      try simp only [List.getElem_toArray, List.getElem_cons_zero, List.getElem_cons_succ, Act.put, List.setIfInBounds_toArray, List.set_cons_zero, List.set_cons_succ]
      refine wpAnyH_done (by kernel_rfl) ?_ _
      go_wp2_with fail
      go_meet
      exact ⟨nnb, gb, rfl, S7.out.pick [1, 0, 2, 3] (by decide)⟩
  case rest =>
    clear S0 hmk hwr
    obtain ⟨nb, gb, rfl, S⟩ := hcut
    have b3 := BlkAt.cell (S.out.get 3 rfl) 3
    simp only [List.getElem?_cons_succ, List.getElem?_cons_zero] at b3
    go_wp2_with fail
    go_loopw [16] (fun i wr => ∃ k : Nat, i = .int .i64 k ∧ k ≤ ed.length ∧ Hid (Sep w.heap.size w [eBlk nb 138 [.slice A1 al.length c1, .int .i64 (N : Int), .slice A2 mr.length c2, .slice A3 ed.length c3, .slice (some ⟨gb, 0, none⟩) (N + 1) (N + 1)], eBlk gb 3 (mkI (N + 1) fun j => (cntS (ed.take k) j : Int)), eBlk (w.heap.size + 1) 138 [.slice none 0 0, .int .i64 0, .slice none 0 0, .slice none 0 0, .slice none 0 0], eBlk w.heap.size 35 [.slice A1 al.length c1, .int .i64 (N : Int), .slice A2 mr.length c2, .slice A3 ed.length c3]] wr)) (fun i _ => ed.length - (intOf i).toNat)
    case atStart => exact ⟨0, rfl, Nat.zero_le _, S.out⟩
    case round =>
      clear S b3
      obtain ⟨k, rfl, hk, S⟩ := hrel
      by_cases hlt : k < ed.length
      · obtain ⟨b, off, x, hAe, hb, hx, y0, y1, y2⟩ := EdsAt.at (HE.out.below EdE.stays S.out.below) hlt
        subst hAe
        obtain ⟨s, hs⟩ := Int.eq_ofNat_of_zero_le (HS.out k x hx).1
        have hsN : s < N := by have := (HS.out k x hx).2; omega
        obtain ⟨ye, hye⟩ : ∃ z, z = x.ev := ⟨_, rfl⟩
        obtain ⟨yd, hyd⟩ : ∃ z, z = x.dst := ⟨_, rfl⟩
        have HX : Hid (mkI (N + 1) (fun t => if t = s + 1 then (cntS (ed.take k) (s + 1) : Int) + 1 else (cntS (ed.take k) t : Int)) = mkI (N + 1) fun t => (cntS (ed.take (k + 1)) t : Int)) := mkI_congr fun t _ => by
          rw [List.take_add_one, hx, Option.toList_some, cntS_snoc, hs]
          by_cases e : t = s + 1
          · subst e; rw [if_pos rfl, if_pos (by omega)]; omega
          · rw [if_neg e, if_neg (by omega)]
        rw [hs] at y0
        rw [← hye] at y1
        rw [← hyd] at y2
        clear hx hs hye hyd hb
        go_upto_region 5 with fail
        refine wp_world (fun W => ∃ bx, bx = wr.heap.size ∧ Sep w.heap.size w (eBlk bx 87 [.int .i64 (s : Int), .int .i64 ye, .int .i64 yd] :: [eBlk nb 138 [.slice A1 al.length c1, .int .i64 (N : Int), .slice A2 mr.length c2, .slice (some ⟨b, off, none⟩) ed.length c3, .slice (some ⟨gb, 0, none⟩) (N + 1) (N + 1)], eBlk gb 3 (mkI (N + 1) fun j => (cntS (ed.take k) j : Int)), eBlk (w.heap.size + 1) 138 [.slice none 0 0, .int .i64 0, .slice none 0 0, .slice none 0 0, .slice none 0 0], eBlk w.heap.size 35 [.slice A1 al.length c1, .int .i64 (N : Int), .slice A2 mr.length c2, .slice (some ⟨b, off, none⟩) ed.length c3]]) W) ⟨_, rfl, S.out.alloc' _ [_, _, _] rfl rfl⟩ fun W S' => ?_
        obtain ⟨bx, hbx, S'⟩ := S'
        rw [← hbx]
        have S3 := Lib.hid S'
        clear S' hbx S y0 y1 y2
        have bx0 := BlkAt.cell (S3.out.get 0 rfl) 0
        have g4 := BlkAt.cell (S3.out.get 1 rfl) 4
        simp only [List.getElem?_cons_succ, List.getElem?_cons_zero] at bx0 g4
        have cc := (BlkAt.cell (S3.out.get 2 rfl) (s + 1)).trans (mkI_get (show s + 1 < N + 1 by omega))
        have cf := BlkAt.free (S3.out.get 2 rfl) (s + 1)
        have hc := cntS_le (ed.take k) (s + 1)
        rw [List.length_take] at hc
        have S4 : Hid (Sep w.heap.size w [eBlk nb 138 [.slice A1 al.length c1, .int .i64 (N : Int), .slice A2 mr.length c2, .slice (some ⟨b, off, none⟩) ed.length c3, .slice (some ⟨gb, 0, none⟩) (N + 1) (N + 1)], eBlk gb 3 (mkI (N + 1) fun j => (cntS (ed.take (k + 1)) j : Int)), eBlk (w.heap.size + 1) 138 [.slice none 0 0, .int .i64 0, .slice none 0 0, .slice none 0 0, .slice none 0 0], eBlk w.heap.size 35 [.slice A1 al.length c1, .int .i64 (N : Int), .slice A2 mr.length c2, .slice (some ⟨b, off, none⟩) ed.length c3]] (W.setCell ⟨gb, s + 1, none⟩ (.int .i64 ((cntS (ed.take k) (s + 1) : Int) + 1)))) := by
          have h := S3.out.set 2 rfl (s + 1) (.int .i64 ((cntS (ed.take k) (s + 1) : Int) + 1))
          rw [mkI_set, HX.out] at h
          exact h.drop1
        obtain ⟨q, hq⟩ : ∃ q : Nat, q = cntS (ed.take k) (s + 1) := ⟨_, rfl⟩
        rw [← hq] at cc hc S4
        have hw1 : IntKind.i64.wrap ((q : Int) + 1) = (q : Int) + 1 := IntWalk.i64_in _ (by omega)
        have hw2 : IntKind.i64.wrap ((s : Int) + 1) = (s : Int) + 1 := IntWalk.i64_in _ (by omega)
        have hw3 : ((s : Int) + 1).toNat = s + 1 := by omega
        clear hq S3
        go_wp2_with fail
        go_roundw
        case rel => exact ⟨k + 1, by go_num, by omega, S4.out⟩
        case measure => simp [intOf]; omega
      · obtain rfl : k = ed.length := by omega
        have b1 := BlkAt.cell (S.out.get 3 rfl) 1
        simp only [List.getElem?_cons_succ, List.getElem?_cons_zero] at b1
        have S2 : Hid (Sep w.heap.size w [eBlk nb 138 [.slice A1 al.length c1, .int .i64 (N : Int), .slice A2 mr.length c2, .slice A3 ed.length c3, .slice (some ⟨gb, 0, none⟩) (N + 1) (N + 1)], eBlk gb 3 (mkI (N + 1) fun j => if j ≤ 0 then (fstV ed j : Int) else (cntS ed j : Int)), eBlk (w.heap.size + 1) 138 [.slice none 0 0, .int .i64 0, .slice none 0 0, .slice none 0 0, .slice none 0 0], eBlk w.heap.size 35 [.slice A1 al.length c1, .int .i64 (N : Int), .slice A2 mr.length c2, .slice A3 ed.length c3]] wr) := by
          have h := S.out
          have e : mkI (N + 1) (fun j => (cntS (ed.take ed.length) j : Int)) = mkI (N + 1) fun j => if j ≤ 0 then (fstV ed j : Int) else (cntS ed j : Int) := mkI_congr fun t _ => by
            rw [List.take_length]
            by_cases e : t ≤ 0
            · obtain rfl : t = 0 := by omega
              rw [if_pos e, fstV_zero HS0.out, cntS_zero HS0.out]
            · rw [if_neg e]
          rw [e] at h
          exact h
        clear S
        go_wp2_with fail
        go_loopw [32] (fun i wr => ∃ s : Nat, i = .int .i64 s ∧ s ≤ N ∧ Hid (Sep w.heap.size w [eBlk nb 138 [.slice A1 al.length c1, .int .i64 (N : Int), .slice A2 mr.length c2, .slice A3 ed.length c3, .slice (some ⟨gb, 0, none⟩) (N + 1) (N + 1)], eBlk gb 3 (mkI (N + 1) fun j => if j ≤ s then (fstV ed j : Int) else (cntS ed j : Int)), eBlk (w.heap.size + 1) 138 [.slice none 0 0, .int .i64 0, .slice none 0 0, .slice none 0 0, .slice none 0 0], eBlk w.heap.size 35 [.slice A1 al.length c1, .int .i64 (N : Int), .slice A2 mr.length c2, .slice A3 ed.length c3]] wr)) (fun i _ => N - (intOf i).toNat)
        case atStart => exact ⟨0, rfl, Nat.zero_le _, S2.out⟩
        case round =>
          clear S2 b1
          obtain ⟨s, rfl, hs, S⟩ := hrel
          by_cases hlt : s < N
          · have E2 : Hid (mkI (N + 1) (fun t => if t = s + 1 then (fstV ed (s + 1) : Int) else if t ≤ s then (fstV ed t : Int) else (cntS ed t : Int)) = mkI (N + 1) fun j => if j ≤ s + 1 then (fstV ed j : Int) else (cntS ed j : Int)) := mkI_congr fun t _ => by
              by_cases e : t = s + 1
              · subst e; rw [if_pos rfl, if_pos (Nat.le_refl _)]
              · rw [if_neg e]
                by_cases e2 : t ≤ s
                · rw [if_pos e2, if_pos (by omega)]
                · rw [if_neg e2, if_neg (by omega)]
            have i1 : (if s + 1 ≤ s then (fstV ed (s + 1) : Int) else (cntS ed (s + 1) : Int)) = (cntS ed (s + 1) : Int) := if_neg (by omega)
            have i2 : (if s ≤ s then (fstV ed s : Int) else (cntS ed s : Int)) = (fstV ed s : Int) := if_pos (Nat.le_refl _)
            have hsum : (cntS ed (s + 1) : Int) + (fstV ed s : Int) = (fstV ed (s + 1) : Int) := by rw [fstV_succ]; omega
            have hb1 := fstV_le ed (s + 1)
            have hw1 : IntKind.i64.wrap (fstV ed (s + 1) : Int) = (fstV ed (s + 1) : Int) := IntWalk.i64_in _ (by omega)
            have hw2 : IntKind.i64.wrap ((s : Int) + 1) = (s : Int) + 1 := IntWalk.i64_in _ (by omega)
            have hw3 : ((s : Int) + 1).toNat = s + 1 := by omega
            have hp1 : (0 : Int) ≤ (s : Int) + 1 := by omega
            have hp2 : (s : Int) + 1 < (N : Int) + 1 := by omega
            have hp3 : (s : Int) < (N : Int) + 1 := by omega
            have g4 := BlkAt.cell (S.out.get 0 rfl) 4
            have r0 := (BlkAt.cell (S.out.get 1 rfl) s).trans (mkI_get (show s < N + 1 by omega))
            have r1 := (BlkAt.cell (S.out.get 1 rfl) (s + 1)).trans (mkI_get (show s + 1 < N + 1 by omega))
            have cf := BlkAt.free (S.out.get 1 rfl) (s + 1)
            simp only [List.getElem?_cons_succ, List.getElem?_cons_zero] at g4
            rw [i1] at r1
            rw [i2] at r0
            have S5 := S.out.drew.set 1 rfl (s + 1) (.int .i64 (fstV ed (s + 1) : Int))
            rw [mkI_set] at S5
            have S6 : Hid (Sep w.heap.size w [eBlk nb 138 [.slice A1 al.length c1, .int .i64 (N : Int), .slice A2 mr.length c2, .slice A3 ed.length c3, .slice (some ⟨gb, 0, none⟩) (N + 1) (N + 1)], eBlk gb 3 (mkI (N + 1) fun j => if j ≤ s + 1 then (fstV ed j : Int) else (cntS ed j : Int)), eBlk (w.heap.size + 1) 138 [.slice none 0 0, .int .i64 0, .slice none 0 0, .slice none 0 0, .slice none 0 0], eBlk w.heap.size 35 [.slice A1 al.length c1, .int .i64 (N : Int), .slice A2 mr.length c2, .slice A3 ed.length c3]] (wr.drew.setCell ⟨gb, s + 1, none⟩ (.int .i64 (fstV ed (s + 1) : Int)))) := by rw [E2.out] at S5; exact S5
            clear S5 S i1 i2
            go_upto_region 10 with fail
            go_region
            go_wp2_with fail
            go_roundw
            case rel => exact ⟨s + 1, by go_num, by omega, S6.out⟩
            case measure => simp [intOf]; omega
          · obtain rfl : s = N := by omega
            have E3 : mkI (s + 1) (fun j => if j ≤ s then (fstV ed j : Int) else (cntS ed j : Int)) = mkI (s + 1) fun j => (fstV ed j : Int) := mkI_congr fun t ht => if_pos (by omega)
            rw [E3] at S
            have HEND := Lib.hid hn
            clear E3
            have r0 := BlkAt.cell (S.out.get 2 rfl) 0
            have q0 := BlkAt.cell (S.out.get 0 rfl) 0
            have f0 := BlkAt.free (S.out.get 2 rfl) 0
            have r1 := BlkAt.cell (S.out.get 2 rfl) 1
            have q1 := BlkAt.cell (S.out.get 0 rfl) 1
            have f1 := BlkAt.free (S.out.get 2 rfl) 1
            have r2 := BlkAt.cell (S.out.get 2 rfl) 2
            have q2 := BlkAt.cell (S.out.get 0 rfl) 2
            have f2 := BlkAt.free (S.out.get 2 rfl) 2
            have r3 := BlkAt.cell (S.out.get 2 rfl) 3
            have q3 := BlkAt.cell (S.out.get 0 rfl) 3
            have f3 := BlkAt.free (S.out.get 2 rfl) 3
            have r4 := BlkAt.cell (S.out.get 2 rfl) 4
            have q4 := BlkAt.cell (S.out.get 0 rfl) 4
            have f4 := BlkAt.free (S.out.get 2 rfl) 4
            simp only [List.getElem?_cons_succ, List.getElem?_cons_zero] at r0 q0 r1 q1 r2 q2 r3 q3 r4 q4
            have S4 := Lib.hid (((((S.out.set 2 rfl 0 (.slice A1 al.length c1)).set 2 rfl 1 (.int .i64 (s : Int))).set 2 rfl 2 (.slice A2 mr.length c2)).set 2 rfl 3 (.slice A3 ed.length c3)).set 2 rfl 4 (.slice (some ⟨gb, 0, none⟩) (s + 1) (s + 1)))
            clear S
            go_wp2_with fail
            refine bodyPost_ret (v := .agg #[.slice A1 al.length c1, .int .i64 (s : Int), .slice A2 mr.length c2, .slice A3 ed.length c3, .slice (some ⟨gb, 0, none⟩) (s + 1) (s + 1)]) (by simp [results, Tryd.results102, go_sem, *]) rfl ?_
            exact ⟨gb, rfl, S4.out.pick [1] (by decide)⟩
end Go.Proofs.YtkifgffhoenaoaaDoor

namespace Go.Proofs.YtkifgffhoenaoaaDoor
open Go.RowKit
set_option linter.unusedSimpArgs false
set_option linter.unusedVariables false
abbrev eQ (l : List Int) (v : Value) : Ent := eOwnO encI 1 3 l v
section
variable {n : Nat} {w0 w : World} {es : List Ent}
theorem wpList_pushQ {P : Program} {α : Type} {enc : α → List Value} {k T : Nat} {l : List α} {v : Value} {ops : Array Oper} {rest : List Oper} {o : Oper} {a : Act} {Q : Exit → Act → World → Prop} (hkk : ∀ x, (enc x).length = k) (hgd : o.guard = none) (s x : Operand) (t : TypeId)
    (ho : o.op = .call { callee := .builtin .append, args := #[s, x], argTypes := #[t, t] }) (S : Sep n w0 es w) (i : Nat) (hei : es[i]? = some (eOwnO enc k T l v))
    (ht : P.underlying t = some (.slice T)) (z : Value) (bytes : Nat) (hi : (P.info? T).map (fun i => (i.zero, i.size, i.bytes)) = some (some z, k, bytes))
    (hzs : z.cells.size = k) (hk : 0 < k) (hs : a.eval s = v) (y : α) (g : Nat) (hx : a.eval x = .slice (some ⟨g, 0, none⟩) 1 1) (hc : ∀ j u, (enc y)[j]? = some u → w.cell? ⟨g, j, none⟩ = some u) (h1 : ∀ u ∈ enc y, u.oneCell' = true)
    (hl : l.length ≤ 1048576) (hby : bytes ≤ 4096)
    (h : ∀ A' c' w', Sep n w0 (es.set i (eOwnO enc k T (l ++ [y]) (.slice A' (l.length + 1) c'))) w' → wpList P ops Q rest (a.put o.dst (.slice A' (l.length + 1) c')) w') :
    wpList P ops Q (o :: rest) a w :=
  wpList_pushO hgd s x t ho hkk (S.get i hei) ht z bytes hi hzs hk hs y g hx hc h1 hl hby (Nat.zero_le _) fun A' c' w' ho' hg hat => h A' c' w' (S.chg i hei _ (Off.grown hg) ho' (fun g hg => by
    simp only [eOwnO, Option.mem_toList] at hg ⊢
    rcases hat with h | ⟨j, h, hj⟩
    · exact .inl (by rw [← h]; exact hg)
    · rw [h] at hg; cases hg; exact .inr hj))
theorem OwnO.cap {α : Type} {enc : α → List Value} {k T B : Nat} {l : List α} {A : Option Addr} {c : Nat} {w : World} (h : OwnO enc k T B l (.slice A l.length c) w) : l.length ≤ c := by
  rcases h with ⟨h1, h2⟩ | ⟨g', off', cap', cs, e, hB, hb, hn, hm, hs, hc⟩
  · rw [h2]; exact Nat.zero_le _
  · cases e; exact hn
theorem Sep.formQ {α : Type} {enc : α → List Value} {k T : Nat} (S : Sep n w0 es w) (i : Nat) {l : List α} {v : Value} (hi : es[i]? = some (eOwnO enc k T l v)) : ∃ A c, v = .slice A l.length c ∧ l.length ≤ c := by
  obtain ⟨A, c, rfl⟩ := OwnO.form (S.get i hi)
  exact ⟨A, c, rfl, OwnO.cap (S.get i hi)⟩
theorem Sep.intsQ (S : Sep n w0 es w) (i : Nat) {l : List Int} {A : Option Addr} {c : Nat} (hi : es[i]? = some (eQ l (.slice A l.length c))) : IntsAt w A l := OwnO.reads (fun _ => rfl) (S.get i hi)
/-- A list that was made is a queue. -/
theorem Sep.asQ {α : Type} {enc : α → List Value} {k T : Nat} {l : List α} {v : Value} (S : Sep n w0 es w) (i : Nat) (hi : es[i]? = some (eOwn enc k T l v)) : Sep n w0 (es.set i (eOwnO enc k T l v)) w :=
  S.as i hi _ (fun h => OwnO.of h) (fun g hg => hg)
/-- How many are negative. -/
def negC (N : Nat) (d : Nat → Int) : Nat := ((List.range N).filter fun s => decide (d s < 0)).length
def wNeg (w : World) (g N : Nat) : Nat := ((List.range N).filter fun s => match w.cell? ⟨g, s, none⟩ with
  | some (.int _ x) => decide (x < 0)
  | _ => false).length
theorem wNeg_eq {w : World} {g T N : Nat} {d : Nat → Int} (h : BlkAt w g T (mkI N d)) : wNeg w g N = negC N d := by
  unfold wNeg negC
  refine congrArg List.length (List.filter_congr fun s hs => ?_)
  rw [(h.cell s).trans (mkI_get (by simpa using hs))]
theorem negC_put {d : Nat → Int} {p : Nat} {x : Int} (hd : d p < 0) (hx : 0 ≤ x) : ∀ (N : Nat), negC N (fun s => if s = p then x else d s) + (if p < N then 1 else 0) = negC N d := by
  intro N
  induction N with
  | zero => simp [negC]
  | succ N ih =>
    simp only [negC] at ih ⊢
    rw [List.range_succ, List.filter_append, List.filter_append, List.length_append, List.length_append]
    by_cases e : N = p
    · subst e
      rw [if_neg (Nat.lt_irrefl N)] at ih
      rw [if_pos (Nat.lt_succ_self N)]
      have h1 : ¬ x < 0 := by omega
      have e1 : ([N].filter fun s => decide ((if s = N then x else d s) < 0)) = [] := by simp [h1]
      have e2 : ([N].filter fun s => decide (d s < 0)) = [N] := by simp [hd]
      rw [e1, e2]
      have := ih
      simp only [List.length_nil, List.length_cons]
      omega
    · have h2 : ([N].filter fun s => decide ((if s = p then x else d s) < 0)).length = ([N].filter fun s => decide (d s < 0)).length := by
        simp only [List.filter_cons, List.filter_nil, if_neg e]
      rw [h2]
      by_cases g : p < N
      · rw [if_pos g] at ih; rw [if_pos (by omega)]; omega
      · rw [if_neg g] at ih; rw [if_neg (by omega)]; omega
/-- The head is cut off. -/
theorem Sep.tailQ {α : Type} {enc : α → List Value} {k T : Nat} {l : List α} {x : α} {g off nn cap : Nat} (hk : ∀ x, (enc x).length = k) (S : Sep n w0 es w) (i : Nat) (hi : es[i]? = some (eOwnO enc k T (x :: l) (.slice (some ⟨g, off, none⟩) nn cap))) :
    ∃ A, (if cap = 1 then some (⟨g, off, none⟩ : Addr) else some ⟨g, off + k, none⟩) = some A ∧ Sep n w0 (es.set i (eOwnO enc k T l (.slice (some A) l.length (cap - 1)))) w := by
  obtain ⟨A, h1, h2⟩ := OwnO.tail hk (S.get i hi)
  refine ⟨A, h1, S.as i hi _ (fun _ => h2) (fun b hb => ?_)⟩
  have hA : A.block = g := by
    split at h1
    · cases h1; rfl
    · cases h1; rfl
  simpa [eOwnO, Value.ownBlock, hA] using hb
end
end Go.Proofs.YtkifgffhoenaoaaDoor

