/-
  Plain laws: the states that are found, and the canonical automaton.
-/
import Derived.Test.YtkbmenpggiojeaaMi
import Derived.Test.YtkbmenpggiojeaaMf
namespace Go.Proofs.Ytkbmenpggiojeaa
open Go.RowKit
set_option linter.unusedSimpArgs false
set_option linter.unusedVariables false

/-- One state more, if it is there and is new. -/
def addV (out : List Int) (t : Int) : List Int := if 0 ≤ t ∧ ¬ t ∈ out then out ++ [t] else out
def scanV (ed : List Ed) (s : Int) (al : List Int) (out : List Int) : List Int := al.foldl (fun out e => addV out (nextV ed s e)) out
theorem scanV_snoc (ed : List Ed) (s : Int) (al : List Int) (e : Int) (out : List Int) : scanV ed s (al ++ [e]) out = addV (scanV ed s al out) (nextV ed s e) := by simp [scanV]
/-- Rounds from place i on. -/
def foundL (au : Au) : Nat → Nat → List Int → List Int
  | 0, _, out => out
  | f + 1, i, out => match out[i]? with
    | some s => foundL au f (i + 1) (scanV au.ed s au.al out)
    | none => out
def foundV (au : Au) : List Int := if 0 < au.n then foundL au (au.n.toNat + 1) 0 [0] else []
/-- Different states of n. -/
structure Sts (n : Int) (l : List Int) : Prop where
  nd : l.Nodup
  rg : ∀ x, x ∈ l → 0 ≤ x ∧ x < n
theorem nodup_len : ∀ (n : Nat) (l : List Int), l.Nodup → (∀ x, x ∈ l → 0 ≤ x ∧ x < (n : Int)) → l.length ≤ n
  | 0, l, _, h => by
    cases l with
    | nil => simp
    | cons a l => have := h a (by simp); omega
  | n + 1, l, hd, h => by
    by_cases hm : (n : Int) ∈ l
    · have h1 := nodup_len n (l.erase (n : Int)) (hd.erase _) (fun x hx => by
        have h2 := (hd.mem_erase_iff).1 hx
        have := h x h2.2
        have := h2.1
        omega)
      have := List.length_erase_of_mem hm
      omega
    · have := nodup_len n l hd (fun x hx => by
        have := h x hx
        by_cases e : x = n
        · subst e; exact absurd hx hm
        · omega)
      omega
theorem Sts.len {n : Int} {l : List Int} (h : Sts n l) (hn : 0 ≤ n) : l.length ≤ n.toNat := nodup_len n.toNat l h.nd fun x hx => by have := h.rg x hx; omega
theorem Sts.add {n : Int} {l : List Int} (h : Sts n l) {t : Int} (ht : t < n) : Sts n (addV l t) := by
  unfold addV
  split
  · rename_i h1
    refine ⟨?_, fun x hx => ?_⟩
    · rw [List.nodup_append]
      refine ⟨h.nd, by simp, fun a ha b hb => ?_⟩
      simp at hb; subst hb
      intro e; subst e; exact h1.2 ha
    · simp only [List.mem_append, List.mem_singleton] at hx
      rcases hx with hx | rfl
      · exact h.rg x hx
      · exact ⟨h1.1, ht⟩
  · exact h
/-- Edges that lead to states, or away from the automaton to nowhere. -/
def Leads (au : Au) : Prop := ∀ x, x ∈ au.ed → 0 ≤ x.dst ∧ x.dst < au.n
theorem nextV_mem {l : List Ed} {s e : Int} : nextV l s e = -1 ∨ ∃ x, x ∈ l ∧ x.src = s ∧ x.ev = e ∧ x.dst = nextV l s e := by
  unfold nextV
  cases hf : l.find? (fun x => decide (x.src = s) && decide (x.ev = e)) with
  | none => exact .inl rfl
  | some x =>
    have h2 := List.find?_some hf
    simp at h2
    exact .inr ⟨x, List.mem_of_find?_eq_some hf, h2.1, h2.2, rfl⟩
theorem Leads.next {au : Au} (h : Leads au) (s e : Int) (hn : 0 ≤ au.n) : nextV au.ed s e < au.n ∧ -1 ≤ nextV au.ed s e := by
  rcases nextV_mem (l := au.ed) (s := s) (e := e) with h1 | ⟨x, hx, _, _, h1⟩
  · omega
  · have := h x hx; omega
theorem Sts.scan {au : Au} (hl : Leads au) (hn : 0 ≤ au.n) (s : Int) : ∀ (al : List Int) {l : List Int}, Sts au.n l → Sts au.n (scanV au.ed s al l)
  | [], _, h => h
  | e :: r, _, h => Sts.scan hl hn s r (h.add (hl.next s e hn).1)
theorem addV_pre (l : List Int) (t : Int) : l <+: addV l t := by
  unfold addV; split
  · exact List.prefix_append ..
  · exact List.prefix_refl _
theorem scanV_pre (ed : List Ed) (s : Int) : ∀ (al l : List Int), l <+: scanV ed s al l
  | [], l => List.prefix_refl l
  | e :: r, l => (addV_pre l (nextV ed s e)).trans (scanV_pre ed s r (addV l (nextV ed s e)))
theorem scanV_has (ed : List Ed) (s : Int) : ∀ (al l : List Int) (e : Int), e ∈ al → 0 ≤ nextV ed s e → nextV ed s e ∈ scanV ed s al l
  | a :: r, l, e, he, h0 => by
    rcases List.mem_cons.1 he with rfl | he
    · refine (scanV_pre ed s r (addV l (nextV ed s e))).subset ?_
      unfold addV; split
      · simp
      · rename_i h; exact Classical.not_not.1 (fun hm => h ⟨h0, hm⟩)
    · exact scanV_has ed s r _ e he h0
/-- All that the first i lead to is in the list. -/
def Closed (au : Au) (i : Nat) (l : List Int) : Prop := ∀ j s e, j < i → l[j]? = some s → e ∈ au.al → 0 ≤ nextV au.ed s e → nextV au.ed s e ∈ l
theorem Closed.round {au : Au} {i : Nat} {l : List Int} {s : Int} (h : Closed au i l) (hs : l[i]? = some s) : Closed au (i + 1) (scanV au.ed s au.al l) := by
  intro j x e hj hx he h0
  have hp := scanV_pre au.ed s au.al l
  have hi := (List.getElem?_eq_some_iff.1 hs).1
  have hjl : l[j]? = some x := by
    have hjl : j < l.length := by omega
    have h1 := List.IsPrefix.getElem hp hjl
    rw [List.getElem?_eq_getElem (Nat.lt_of_lt_of_le hjl hp.length_le)] at hx
    rw [List.getElem?_eq_getElem hjl, h1]; exact hx
  by_cases e1 : j = i
  · subst e1; rw [hs] at hjl; cases hjl; exact scanV_has au.ed s au.al l e he h0
  · exact hp.subset (h j x e (by omega) hjl he h0)
theorem foundL_stop (au : Au) (f i : Nat) (out : List Int) (h : out.length ≤ i) : foundL au f i out = out := by
  cases f with
  | zero => rfl
  | succ f => simp [foundL, List.getElem?_eq_none h]
theorem foundL_closed {au : Au} (hl : Leads au) (hn : 0 ≤ au.n) : ∀ (f i : Nat) (out : List Int), Sts au.n out → Closed au i out → i ≤ out.length → au.n.toNat < f + i →
    Sts au.n (foundL au f i out) ∧ Closed au (foundL au f i out).length (foundL au f i out) ∧ out <+: foundL au f i out
  | 0, i, out, h1, h2, h3, h4 => by have := h1.len hn; omega
  | f + 1, i, out, h1, h2, h3, h4 => by
    unfold foundL
    cases hs : out[i]? with
    | none => have : out.length ≤ i := List.getElem?_eq_none_iff.1 hs
              obtain rfl : i = out.length := by omega
              exact ⟨h1, h2, List.prefix_refl _⟩
    | some s =>
      have hp := scanV_pre au.ed s au.al out
      have hi := (List.getElem?_eq_some_iff.1 hs).1
      obtain ⟨a, b, c⟩ := foundL_closed hl hn f (i + 1) (scanV au.ed s au.al out) (Sts.scan hl hn s au.al h1) (h2.round hs) (by have := hp.length_le; omega) (by omega)
      exact ⟨a, b, hp.trans c⟩
structure FoundOk (au : Au) (l : List Int) : Prop where
  st : Sts au.n l
  cl : Closed au l.length l
  z : 0 < au.n → l[0]? = some 0
  e : au.n ≤ 0 → l = []
theorem foundV_ok {au : Au} (hl : Leads au) (hn : 0 ≤ au.n) : FoundOk au (foundV au) := by
  unfold foundV
  split
  · rename_i h
    obtain ⟨a, b, c⟩ := foundL_closed hl hn (au.n.toNat + 1) 0 [0] ⟨by simp, fun x hx => by simp at hx; omega⟩ (fun j s e hj => absurd hj (by omega)) (by simp) (by omega)
    refine ⟨a, b, fun _ => ?_, fun h => by omega⟩
    have h1 := List.IsPrefix.getElem c (i := 0) (by simp)
    rw [List.getElem?_eq_getElem (Nat.lt_of_lt_of_le (by simp) c.length_le), ← h1]; rfl
  · rename_i h
    exact ⟨⟨by simp, by simp⟩, fun j s e hj => absurd hj (by simp), fun h2 => absurd h2 h, fun _ => rfl⟩

/-- The edges of state number i of the canonical automaton, by the first events. -/
def rowV (ed : List Ed) (fd : List Int) (i : Nat) (al : List Int) : List Ed := al.filterMap fun e => if 0 ≤ nextV ed (fd.getD i 0) e then some ⟨(i : Int), e, idxV fd (nextV ed (fd.getD i 0) e)⟩ else none
def rowsV (ed : List Ed) (fd : List Int) (al : List Int) (k : Nat) : List Ed := (List.range k).flatMap fun i => rowV ed fd i al
def marksV (mr fd : List Int) (k : Nat) : List Int := ((List.range k).filter fun i => decide (fd.getD i 0 ∈ mr)).map fun (i : Nat) => (i : Int)
def canonV (au : Au) : Au := ⟨au.al, (foundV au).length, marksV au.mr (foundV au) (foundV au).length, rowsV au.ed (foundV au) au.al (foundV au).length⟩
theorem rowV_snoc (ed : List Ed) (fd : List Int) (i : Nat) (al : List Int) (e : Int) : rowV ed fd i (al ++ [e]) = if 0 ≤ nextV ed (fd.getD i 0) e then rowV ed fd i al ++ [⟨(i : Int), e, idxV fd (nextV ed (fd.getD i 0) e)⟩] else rowV ed fd i al := by
  simp only [rowV, List.filterMap_append, List.filterMap_cons, List.filterMap_nil]
  split <;> simp_all
theorem rowV_len (ed : List Ed) (fd : List Int) (i : Nat) (al : List Int) : (rowV ed fd i al).length ≤ al.length := List.length_filterMap_le ..
theorem rowsV_succ (ed : List Ed) (fd : List Int) (al : List Int) (k : Nat) : rowsV ed fd al (k + 1) = rowsV ed fd al k ++ rowV ed fd k al := by
  simp [rowsV, List.range_succ]
theorem rowsV_len (ed : List Ed) (fd : List Int) (al : List Int) : ∀ k, (rowsV ed fd al k).length ≤ k * al.length
  | 0 => by simp [rowsV]
  | k + 1 => by
    rw [rowsV_succ, List.length_append]
    have := rowsV_len ed fd al k
    have := rowV_len ed fd k al
    rw [Nat.add_mul]; omega
theorem marksV_succ (mr fd : List Int) (k : Nat) : marksV mr fd (k + 1) = if fd.getD k 0 ∈ mr then marksV mr fd k ++ [(k : Int)] else marksV mr fd k := by
  simp only [marksV, List.range_succ, List.filter_append, List.map_append]
  split <;> simp_all
theorem marksV_len (mr fd : List Int) (k : Nat) : (marksV mr fd k).length ≤ k := by
  simp only [marksV, List.length_map]
  exact Nat.le_trans (List.length_filter_le ..) (by simp)
theorem mem_marksV {mr fd : List Int} {k : Nat} {x : Int} (h : x ∈ marksV mr fd k) : 0 ≤ x ∧ x < k := by
  simp only [marksV, List.mem_map, List.mem_filter, List.mem_range] at h
  obtain ⟨i, h, rfl⟩ := h
  omega
theorem marksV_incr (mr fd : List Int) : ∀ k, incr (marksV mr fd k)
  | 0 => fun i j x y _ hx _ => by simp [marksV] at hx
  | k + 1 => by
    rw [marksV_succ]
    split
    · exact incr_snoc (marksV_incr mr fd k) fun y hy => (mem_marksV hy).2
    · exact marksV_incr mr fd k
theorem incr.setOk {l : List Int} {n : Int} (h : Go.Proofs.Ytkbmenpggiojeaa.incr l) (hr : ∀ x, x ∈ l → 0 ≤ x ∧ x < n) : setOk l n l.length := fun i x hi hx => by
  have := hr x (List.mem_of_getElem? hx)
  exact ⟨this.1, this.2, fun y h0 hy => h (i - 1) i y x (by omega) hy hx⟩
def lexLt (x y : Ed) : Prop := x.src < y.src ∨ x.src = y.src ∧ x.ev < y.ev
theorem incr.pw {l : List Int} (h : Go.Proofs.Ytkbmenpggiojeaa.incr l) : l.Pairwise (· < ·) := by
  rw [List.pairwise_iff_getElem]
  intro i j hi hj hij
  exact h i j _ _ hij (List.getElem?_eq_getElem hi) (List.getElem?_eq_getElem hj)
theorem rowV_mem {ed : List Ed} {fd : List Int} {i : Nat} {al : List Int} {x : Ed} (h : x ∈ rowV ed fd i al) : x.src = (i : Int) ∧ x.ev ∈ al ∧ 0 ≤ nextV ed (fd.getD i 0) x.ev ∧ x.dst = idxV fd (nextV ed (fd.getD i 0) x.ev) := by
  simp only [rowV, List.mem_filterMap] at h
  obtain ⟨e, he, h⟩ := h
  split at h
  · rename_i h0; cases h; exact ⟨rfl, he, h0, rfl⟩
  · cases h
theorem rowV_pw {ed : List Ed} {fd : List Int} {i : Nat} : ∀ {al : List Int}, al.Pairwise (· < ·) → (rowV ed fd i al).Pairwise lexLt
  | [], _ => by simp [rowV]
  | e :: r, h => by
    rw [List.pairwise_cons] at h
    have ih := rowV_pw (ed := ed) (fd := fd) (i := i) h.2
    unfold rowV at ih ⊢
    rw [List.filterMap_cons]
    split
    · exact ih
    · rename_i y hy
      split at hy
      · cases hy
        rw [List.pairwise_cons]
        refine ⟨fun z hz => ?_, ih⟩
        have := rowV_mem (show z ∈ rowV ed fd i r from hz)
        exact .inr ⟨this.1.symm, h.1 _ this.2.1⟩
      · cases hy
theorem rowsV_mem {ed : List Ed} {fd : List Int} {al : List Int} {k : Nat} {x : Ed} (h : x ∈ rowsV ed fd al k) : ∃ i, i < k ∧ x ∈ rowV ed fd i al := by
  simp only [rowsV, List.mem_flatMap, List.mem_range] at h
  exact h
theorem rowsV_pw {ed : List Ed} {fd : List Int} {al : List Int} (h : al.Pairwise (· < ·)) : ∀ k, (rowsV ed fd al k).Pairwise lexLt
  | 0 => by simp [rowsV]
  | k + 1 => by
    rw [rowsV_succ, List.pairwise_append]
    refine ⟨rowsV_pw h k, rowV_pw h, fun a ha b hb => ?_⟩
    obtain ⟨i, hi, ha⟩ := rowsV_mem ha
    have h1 := (rowV_mem ha).1
    have h2 := (rowV_mem hb).1
    exact .inl (by omega)
theorem pw_prev {l : List Ed} (h : l.Pairwise lexLt) {i : Nat} {x y : Ed} (h0 : 0 < i) (hx : l[i]? = some x) (hy : l[i - 1]? = some y) : y.src < x.src ∨ y.src = x.src ∧ y.ev < x.ev := by
  rw [List.pairwise_iff_getElem] at h
  obtain ⟨hi, rfl⟩ := List.getElem?_eq_some_iff.1 hx
  obtain ⟨hj, rfl⟩ := List.getElem?_eq_some_iff.1 hy
  exact h (i - 1) i hj hi (by omega)
/-- What Canonical wants: events in order, edges to states. -/
structure Raw (au : Au) : Prop where
  al : setOk au.al 32 au.al.length
  n0 : 0 ≤ au.n
  n1 : au.n ≤ 4096
  ld : Leads au
theorem canonV_right {au : Au} (h : Raw au) : (canonV au).Right := by
  have hf := foundV_ok h.ld h.n0
  have hlen := hf.st.len h.n0
  have hn := h.n0
  have hn1 := h.n1
  refine ⟨h.al, by simp [canonV], by simp only [canonV]; omega, (marksV_incr _ _ _).setOk fun x hx => mem_marksV hx, fun i hi x hx => ?_⟩
  obtain ⟨k, hk, hm⟩ := rowsV_mem (List.mem_of_getElem? hx)
  obtain ⟨h1, h2, h3, h4⟩ := rowV_mem hm
  have hkl : k < (foundV au).length := hk
  have hg : (foundV au)[k]? = some ((foundV au).getD k 0) := by rw [List.getD_eq_getElem?_getD, List.getElem?_eq_getElem hkl]; rfl
  obtain ⟨j, hj, hj2⟩ := idxV_in (hf.cl k _ _ hkl hg h2 h3)
  have hjl := (List.getElem?_eq_some_iff.1 hj2).1
  refine ⟨by omega, by rw [h1]; simp only [canonV]; omega, by rw [h4, hj]; omega, by rw [h4, hj]; simp only [canonV]; omega, h2, fun y h0 hy => pw_prev (rowsV_pw (h.al.incr.pw) _) h0 hx hy⟩
theorem canonV_sizes {au : Au} (h : Raw au) : (canonV au).n ≤ au.n ∧ (canonV au).ed.length ≤ au.n.toNat * au.al.length ∧ (canonV au).mr.length ≤ au.n.toNat := by
  have hf := foundV_ok h.ld h.n0
  have hlen := hf.st.len h.n0
  have hn := h.n0
  have := rowsV_len au.ed (foundV au) au.al (foundV au).length
  have := marksV_len au.mr (foundV au) (foundV au).length
  have := Nat.mul_le_mul_right au.al.length hlen
  simp only [canonV]
  exact ⟨by omega, by omega, by omega⟩
end Go.Proofs.Ytkbmenpggiojeaa
