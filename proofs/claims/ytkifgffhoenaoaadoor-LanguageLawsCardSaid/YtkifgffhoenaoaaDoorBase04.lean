/-
  Plain: classes of states that are refined till nothing parts them; what the minimal automaton is.
  Plain: what merge and Restrict build out of an automaton.
  The machine of an automaton: open, step, in.
  Words for memory: a map of the call's own whose number of entries is known; strings as keys.
  minimal.appendInt, refine.
-/
import Derived.Test.YtkifgffhoenaoaaDoorBase03
import Derived.Test.YtkifgffhoenaoaaDoorBase02
import Derived.StillTailTactics
import Derived.BigRegion
namespace Go.Proofs.YtkifgffhoenaoaaDoor
set_option linter.unusedSimpArgs false
set_option linter.unusedVariables false

/-! Numbers of keys -/
section
variable {κ : Type} [DecidableEq κ]
def seenK : List κ → List κ → List κ
  | s, [] => s
  | s, k :: r => if k ∈ s then seenK s r else seenK (s ++ [k]) r
theorem seenK_snoc : ∀ (l s : List κ) (k : κ), seenK s (l ++ [k]) = if k ∈ seenK s l then seenK s l else seenK s l ++ [k]
  | [], s, k => by simp only [List.nil_append]; unfold seenK; split <;> rfl
  | x :: l, s, k => by
    simp only [List.cons_append, seenK]
    split
    · exact seenK_snoc l s k
    · exact seenK_snoc l (s ++ [x]) k
theorem mem_seenK : ∀ (l s : List κ) (x : κ), x ∈ seenK s l ↔ x ∈ s ∨ x ∈ l
  | [], s, x => by simp [seenK]
  | y :: l, s, x => by
    simp only [seenK]
    split
    · rename_i h
      rw [mem_seenK l s x, List.mem_cons]
      constructor
      · rintro (g | g)
        · exact .inl g
        · exact .inr (.inr g)
      · rintro (g | g | g)
        · exact .inl g
        · subst g; exact .inl h
        · exact .inr g
    · rw [mem_seenK l _ x, List.mem_append, List.mem_singleton, List.mem_cons, or_assoc]
theorem seenK_nodup : ∀ (l s : List κ), s.Nodup → (seenK s l).Nodup
  | [], s, h => h
  | y :: l, s, h => by
    simp only [seenK]
    split
    · exact seenK_nodup l s h
    · rename_i hy
      exact seenK_nodup l _ (List.nodup_append.2 ⟨h, by simp, fun a ha b hb => by simp at hb; subst hb; rintro rfl; exact hy ha⟩)
/-- The number of a key: how many were seen before it came first. -/
def idxK (l : List κ) (k : κ) : Nat := l.findIdx fun y => decide (y = k)
theorem idxK_lt {l : List κ} {k : κ} (h : k ∈ l) : idxK l k < l.length := List.findIdx_lt_length_of_exists ⟨k, h, by simp⟩
theorem idxK_get {l : List κ} {k : κ} (h : k ∈ l) : l[idxK l k]? = some k := by
  have h1 := idxK_lt h
  rw [List.getElem?_eq_getElem h1]
  have := List.findIdx_getElem (xs := l) (p := fun y => decide (y = k)) (w := h1)
  simp at this
  exact congrArg some this
theorem idxK_app {l : List κ} {k : κ} (h : k ∈ l) (r : List κ) : idxK (l ++ r) k = idxK l k := by
  have h1 := idxK_lt h
  unfold idxK at h1 ⊢
  rw [List.findIdx_append, if_pos h1]
theorem idxK_new {l : List κ} {k : κ} (h : ¬ k ∈ l) : idxK (l ++ [k]) k = l.length := by
  unfold idxK
  have : l.findIdx (fun y => decide (y = k)) = l.length := List.findIdx_eq_length_of_false fun x hx => by simp; rintro rfl; exact h hx
  rw [List.findIdx_append, if_neg (by omega)]
  simp
theorem idxK_inj {l : List κ} {x y : κ} (hx : x ∈ l) (hy : y ∈ l) (h : idxK l x = idxK l y) : x = y := by
  have h1 := idxK_get hx
  rw [h, idxK_get hy] at h1
  exact (Option.some.inj h1).symm
def numK (l : List κ) : List Int := l.map fun k => ((idxK (seenK [] l) k : Nat) : Int)
def cntK (l : List κ) : Nat := (seenK [] l).length
theorem numK_len (l : List κ) : (numK l).length = l.length := by simp [numK]
theorem numK_snoc (l : List κ) (k : κ) : numK (l ++ [k]) = numK l ++ [((idxK (seenK [] (l ++ [k])) k : Nat) : Int)] := by
  unfold numK
  rw [List.map_append]
  congr 1
  refine List.map_congr_left fun x hx => ?_
  rw [seenK_snoc]
  split
  · rfl
  · rw [idxK_app ((mem_seenK l [] x).2 (.inr hx))]
theorem idxK_old {l : List κ} {k : κ} (h : k ∈ seenK [] l) : idxK (seenK [] (l ++ [k])) k = idxK (seenK [] l) k := by rw [seenK_snoc, if_pos h]
theorem idxK_fresh {l : List κ} {k : κ} (h : ¬ k ∈ seenK [] l) : idxK (seenK [] (l ++ [k])) k = cntK l := by rw [seenK_snoc, if_neg h, idxK_new h]; rfl
end

/-- Numbers of classes, each one first where it occurs first. -/
structure Canon (c : List Int) (m : Nat) : Prop where
  rg : ∀ (s : Nat) x, c[s]? = some x → 0 ≤ x ∧ x < m
  on : ∀ y : Nat, y < m → ∃ s : Nat, c[s]? = some (y : Int)
  cn : ∀ (s : Nat) x, c[s]? = some x → ∀ y : Nat, (y : Int) < x → ∃ t : Nat, t < s ∧ c[t]? = some (y : Int)
theorem numK_canon {κ : Type} [DecidableEq κ] (l : List κ) : Canon (numK l) (cntK l) := by
  refine snoc_ind (P := fun l => Canon (numK l) (cntK l)) ⟨by simp [numK], by simp [cntK, seenK], by simp [numK]⟩ ?_ l
  intro l k h
  by_cases hk : k ∈ seenK [] l
  · have hc : cntK (l ++ [k]) = cntK l := by unfold cntK; rw [seenK_snoc, if_pos hk]
    rw [hc, numK_snoc, idxK_old hk]
    have hlt : idxK (seenK [] l) k < cntK l := idxK_lt hk
    refine ⟨fun s x hx => ?_, fun y hy => ?_, fun s x hx y hy => ?_⟩
    · rcases getElem?_snoc hx with g | ⟨_, rfl⟩
      · exact h.rg s x g
      · omega
    · obtain ⟨s, hs⟩ := h.on y hy
      exact ⟨s, get_keep hs _⟩
    · rcases getElem?_snoc hx with g | ⟨g, rfl⟩
      · obtain ⟨t, h1, h2⟩ := h.cn s x g y hy
        exact ⟨t, h1, get_keep h2 _⟩
      · obtain ⟨t, ht⟩ := h.on y (by omega)
        exact ⟨t, by rw [g]; exact (List.getElem?_eq_some_iff.1 ht).1, get_keep ht _⟩
  · have hc : cntK (l ++ [k]) = cntK l + 1 := by unfold cntK; rw [seenK_snoc, if_neg hk]; simp
    rw [hc, numK_snoc, idxK_fresh hk]
    refine ⟨fun s x hx => ?_, fun y hy => ?_, fun s x hx y hy => ?_⟩
    · rcases getElem?_snoc hx with g | ⟨_, rfl⟩
      · have := h.rg s x g; omega
      · omega
    · by_cases e : y < cntK l
      · obtain ⟨s, hs⟩ := h.on y e
        exact ⟨s, get_keep hs _⟩
      · obtain rfl : y = cntK l := by omega
        exact ⟨(numK l).length, by simp⟩
    · rcases getElem?_snoc hx with g | ⟨g, rfl⟩
      · obtain ⟨t, h1, h2⟩ := h.cn s x g y hy
        exact ⟨t, h1, get_keep h2 _⟩
      · obtain ⟨t, ht⟩ := h.on y (by omega)
        exact ⟨t, by rw [g]; exact (List.getElem?_eq_some_iff.1 ht).1, get_keep ht _⟩
theorem numK_ker {κ : Type} [DecidableEq κ] {l : List κ} {i j : Nat} {x y : κ} (hx : l[i]? = some x) (hy : l[j]? = some y) : (numK l)[i]? = (numK l)[j]? ↔ x = y := by
  unfold numK
  rw [List.getElem?_map, List.getElem?_map, hx, hy]
  simp only [Option.map_some, Option.some.injEq]
  constructor
  · intro h
    exact idxK_inj ((mem_seenK l [] x).2 (.inr (List.mem_of_getElem? hx))) ((mem_seenK l [] y).2 (.inr (List.mem_of_getElem? hy))) (by omega)
  · rintro rfl; rfl

/-! As many classes -/
theorem sub_len : ∀ (l l' : List Nat), l.Nodup → (∀ x, x ∈ l → x ∈ l') → l.length ≤ l'.length
  | [], _, _, _ => by simp
  | a :: l, l', hn, h => by
    rw [List.nodup_cons] at hn
    have ha := h a (by simp)
    have := sub_len l (l'.erase a) hn.2 fun x hx => (List.mem_erase_of_ne (by rintro rfl; exact hn.1 hx)).2 (h x (by simp [hx]))
    rw [List.length_erase_of_mem ha] at this
    have := List.length_pos_of_mem ha
    simp only [List.length_cons]
    omega
theorem pigeon (f : Nat → Nat) (m m' : Nat) (h : ∀ x, x < m → ∃ y, y < m' ∧ f y = x) : m ≤ m' ∧ (m = m' → ∀ y y', y < m' → y' < m' → f y = f y' → y = y') := by
  constructor
  · have := sub_len (List.range m) ((List.range m').map f) List.nodup_range fun x hx => by
      obtain ⟨y, h1, h2⟩ := h x (by simpa using hx)
      exact List.mem_map.2 ⟨y, by simpa using h1, h2⟩
    simpa using this
  · rintro rfl y y' hy hy' he
    by_cases e : y = y'
    · exact e
    · have := sub_len (List.range m) (((List.range m).erase y').map f) List.nodup_range fun x hx => by
        obtain ⟨z, h1, h2⟩ := h x (by simpa using hx)
        by_cases ez : z = y'
        · subst ez
          exact List.mem_map.2 ⟨y, (List.mem_erase_of_ne e).2 (by simpa using hy), by rw [he, h2]⟩
        · exact List.mem_map.2 ⟨z, (List.mem_erase_of_ne ez).2 (by simpa using h1), h2⟩
      rw [List.length_map, List.length_erase_of_mem (by simpa using hy')] at this
      simp at this
      omega

/-! Refinement -/
/-- Nothing tells two states apart. -/
def Eqv (a : Au) (i j : Int) : Prop := ∀ w, (0 ≤ runV a.ed i w ↔ 0 ≤ runV a.ed j w) ∧ (runV a.ed i w ∈ a.mr ↔ runV a.ed j w ∈ a.mr)
theorem Eqv.next {a : Au} {i j : Int} (h : Eqv a i j) (hi : 0 ≤ i) (hj : 0 ≤ j) (e : Int) : Eqv a (nextV a.ed i e) (nextV a.ed j e) := fun w => by
  have := h (e :: w)
  simpa only [runV, hi, hj, if_true] using this
/-- The class of a state. -/
def clsV (c : List Int) (s : Int) : Int := c.getD s.toNat 0
/-- What refines a class: its own number, the events, and the classes to which they lead. -/
def sigV (a : Au) (c : List Int) (s : Nat) : Int × List (Int × Int) := (c.getD s 0, (outOf a.ed s).map fun x => (x.ev, clsV c x.dst))
structure Moore (a : Au) (c : List Int) (m : Nat) : Prop where
  len : c.length = a.n.toNat
  can : Canon c m
  mkd : ∀ i j : Nat, i < c.length → c[i]? = c[j]? → ((i : Int) ∈ a.mr ↔ (j : Int) ∈ a.mr)
  eq : ∀ i j : Nat, i < c.length → j < c.length → Eqv a i j → c[i]? = c[j]?
section
variable {a : Au} {c c' : List Int} {m m' : Nat}
theorem getD_some {l : List Int} {i : Nat} {x : Int} (h : l[i]? = some x) (d : Int) : l.getD i d = x := by rw [List.getD_eq_getElem?_getD, h]; rfl
theorem outOf_rises (hr : a.Right) (s : Nat) : Rises (fun x y : Ed => x.ev < y.ev) (outOf a.ed s) := by
  have h1 : (a.ed).Pairwise edLt := List.pairwise_iff_getElem.2 fun i j hi hj hij => hr.lex i j _ _ hij (List.getElem?_eq_getElem hi) (List.getElem?_eq_getElem hj)
  have h2 : (outOf a.ed s).Pairwise edLt := h1.filter _
  intro i j x y hij hx hy
  obtain ⟨hi, hix⟩ := List.getElem?_eq_some_iff.1 hx
  obtain ⟨hj, hjy⟩ := List.getElem?_eq_some_iff.1 hy
  have h3 := List.pairwise_iff_getElem.1 h2 i j hi hj hij
  rw [hix, hjy] at h3
  have e1 := List.mem_of_getElem? hx
  have e2 := List.mem_of_getElem? hy
  simp only [outOf, List.mem_filter, decide_eq_true_eq] at e1 e2
  rcases h3 with g | g
  · omega
  · exact g.2
theorem mem_outOf {l : List Ed} {s : Nat} {x : Ed} : x ∈ outOf l s ↔ x ∈ l ∧ x.src = (s : Int) := by simp [outOf]
/-- An edge is where a state goes. -/
theorem edge_next (hr : a.Right) {x : Ed} (hx : x ∈ a.ed) : nextV a.ed x.src x.ev = x.dst ∧ 0 ≤ x.src ∧ x.src < a.n ∧ 0 ≤ x.dst ∧ x.dst < a.n := by
  obtain ⟨p, hp, hpx⟩ := List.mem_iff_getElem.1 hx
  have h := List.getElem?_eq_getElem hp
  rw [hpx] at h
  have := hr.edge h
  exact ⟨hr.nextE h, this.1, this.2.1, this.2.2.1, this.2.2.2.1⟩
theorem sig_sub (hr : a.Right) (h : Moore a c m) {i j : Nat} (hi : i < c.length) (hj : j < c.length) (he : Eqv a i j) : ∀ p : Int × Int, p ∈ (outOf a.ed i).map (fun x => (x.ev, clsV c x.dst)) → p ∈ (outOf a.ed j).map (fun x => (x.ev, clsV c x.dst)) := by
  intro p hp
  obtain ⟨x, hx, rfl⟩ := List.mem_map.1 hp
  obtain ⟨hx1, hx2⟩ := mem_outOf.1 hx
  obtain ⟨k1, k2, k3, k4, k5⟩ := edge_next hr hx1
  have h0 := he.next (by omega) (by omega) x.ev
  rw [← hx2, k1] at h0
  rcases hr.next_cases j x.ev with g | ⟨g0, g1, y, hy, y1, y2, y3⟩
  · have := (h0 []).1.1 k4
    simp only [runV] at this
    omega
  · refine List.mem_map.2 ⟨y, mem_outOf.2 ⟨hy, y1⟩, ?_⟩
    rw [← y3] at h0
    have hn := h.len
    have := h.eq x.dst.toNat y.dst.toNat (by omega) (by omega) (by
      rw [Int.toNat_of_nonneg k4, Int.toNat_of_nonneg (by omega)]; exact h0)
    rw [y2]
    unfold clsV
    rw [List.getD_eq_getElem?_getD, List.getD_eq_getElem?_getD, this]
theorem Eqv.symm {a : Au} {i j : Int} (h : Eqv a i j) : Eqv a j i := fun w => ⟨(h w).1.symm, (h w).2.symm⟩
theorem sig_rises (hr : a.Right) (c : List Int) (s : Nat) : Rises (fun x y : Int × Int => x.1 < y.1) ((outOf a.ed s).map fun x => (x.ev, clsV c x.dst)) := by
  intro i j x y hij hx hy
  rw [List.getElem?_map, Option.map_eq_some_iff] at hx hy
  obtain ⟨u, hu, rfl⟩ := hx
  obtain ⟨v, hv, rfl⟩ := hy
  exact outOf_rises hr s i j u v hij hu hv
theorem sig_eqv (hr : a.Right) (h : Moore a c m) {i j : Nat} (hi : i < c.length) (hj : j < c.length) (he : Eqv a i j) : sigV a c i = sigV a c j := by
  unfold sigV
  have h1 := h.eq i j hi hj he
  rw [List.getD_eq_getElem?_getD, h1, ← List.getD_eq_getElem?_getD]
  congr 1
  refine Rises.ext (R := fun x y : Int × Int => x.1 < y.1) (fun x => by omega) (fun x y => by omega) (sig_rises hr c i) (sig_rises hr c j) fun p => ⟨sig_sub hr h hi hj he p, sig_sub hr h hj hi he.symm p⟩
/-- At first: the marked states and the others. -/
theorem Moore.first (h : c.length = a.n.toNat) (hc : Canon c m) (hk : ∀ i j : Nat, i < c.length → j < c.length → (c[i]? = c[j]? ↔ ((i : Int) ∈ a.mr ↔ (j : Int) ∈ a.mr))) : Moore a c m := by
  refine ⟨h, hc, fun i j hi hij => ?_, fun i j hi hj he => (hk i j hi hj).2 ((he []).2)⟩
  have hj : j < c.length := by
    rw [List.getElem?_eq_getElem hi] at hij
    exact (List.getElem?_eq_some_iff.1 hij.symm).1
  exact (hk i j hi hj).1 hij
theorem Moore.step (hr : a.Right) (h : Moore a c m) (hl : c'.length = a.n.toNat) (hc : Canon c' m') (hk : ∀ i j : Nat, i < c'.length → j < c'.length → (c'[i]? = c'[j]? ↔ sigV a c i = sigV a c j)) : Moore a c' m' := by
  have hlc : c'.length = c.length := by rw [hl, h.len]
  refine ⟨hl, hc, fun i j hi hij => ?_, fun i j hi hj he => (hk i j hi hj).2 (sig_eqv hr h (by omega) (by omega) he)⟩
  have hj : j < c'.length := by
    rw [List.getElem?_eq_getElem hi] at hij
    exact (List.getElem?_eq_some_iff.1 hij.symm).1
  have h2 := congrArg Prod.fst ((hk i j hi hj).1 hij)
  refine h.mkd i j (by omega) ?_
  simp only [sigV] at h2
  rw [getD_lt _ (by omega), getD_lt _ (by omega)] at h2
  rw [List.getElem?_eq_getElem (by omega), List.getElem?_eq_getElem (by omega), h2]
/-- Which class of c a class of c' is part of. -/
theorem Moore.count (h : Moore a c m) (hl : c'.length = a.n.toNat) (hc : Canon c' m') (hk : ∀ i j : Nat, i < c'.length → j < c'.length → (c'[i]? = c'[j]? ↔ sigV a c i = sigV a c j)) :
    m ≤ m' ∧ (m = m' → ∀ i j : Nat, i < c.length → j < c.length → c[i]? = c[j]? → c'[i]? = c'[j]?) := by
  have hlc : c'.length = c.length := by rw [hl, h.len]
  have ref : ∀ i j : Nat, i < c'.length → j < c'.length → c'[i]? = c'[j]? → c[i]? = c[j]? := fun i j hi hj he => by
    have h2 := congrArg Prod.fst ((hk i j hi hj).1 he)
    simp only [sigV] at h2
    rw [getD_lt _ (by omega), getD_lt _ (by omega)] at h2
    rw [List.getElem?_eq_getElem (by omega), List.getElem?_eq_getElem (by omega), h2]
  obtain ⟨f, hf⟩ : ∃ f : Nat → Nat, ∀ (s : Nat) (y : Nat), c'[s]? = some (y : Int) → c[s]? = some ((f y : Nat) : Int) := by
    refine ⟨fun y => (c.getD (c'.findIdx fun z => decide (z = (y : Int))) 0).toNat, fun s y hs => ?_⟩
    have hm := List.mem_of_getElem? hs
    have h1 : idxK c' (y : Int) < c'.length := idxK_lt hm
    have h2 : c'[idxK c' (y : Int)]? = some (y : Int) := idxK_get hm
    have hsl := (List.getElem?_eq_some_iff.1 hs).1
    have h3 := ref s (idxK c' (y : Int)) hsl h1 (by rw [hs, h2])
    have h4 : c[s]? = some c[s] := List.getElem?_eq_getElem (by omega)
    have h5 := (h.can.rg s _ h4).1
    rw [h3] at h4
    show c[s]? = some (((c.getD (idxK c' (y : Int)) 0).toNat : Nat) : Int)
    rw [h3, getD_some h4, Int.toNat_of_nonneg h5, h4]
  have hp := pigeon f m m' (fun x hx => by
    obtain ⟨s, hs⟩ := h.can.on x hx
    have hsl := (List.getElem?_eq_some_iff.1 hs).1
    obtain ⟨y, hy⟩ : ∃ y, c'[s]? = some y := ⟨_, List.getElem?_eq_getElem (by omega)⟩
    have hr := hc.rg s y hy
    refine ⟨y.toNat, by omega, ?_⟩
    have := hf s y.toNat (by rw [hy, Int.toNat_of_nonneg hr.1])
    rw [hs] at this
    have := Option.some.inj this
    omega)
  refine ⟨hp.1, fun e i j hi hj hij => ?_⟩
  obtain ⟨y, hy⟩ : ∃ y, c'[i]? = some y := ⟨_, List.getElem?_eq_getElem (by omega)⟩
  obtain ⟨z, hz⟩ : ∃ z, c'[j]? = some z := ⟨_, List.getElem?_eq_getElem (by omega)⟩
  have ry := hc.rg i y hy
  have rz := hc.rg j z hz
  have e1 := hf i y.toNat (by rw [hy, Int.toNat_of_nonneg ry.1])
  have e2 := hf j z.toNat (by rw [hz, Int.toNat_of_nonneg rz.1])
  rw [hij, e2] at e1
  have e3 : ((f z.toNat : Nat) : Int) = (f y.toNat : Nat) := Option.some.inj e1
  have := hp.2 e y.toNat z.toNat (by omega) (by omega) (by omega)
  rw [hy, hz]
  congr 1
  omega
/-- There are no more classes: nothing tells states of one class apart. -/
theorem Moore.fin (hr : a.Right) (h : Moore a c m) (hl : c'.length = a.n.toNat) (hc : Canon c' m) (hk : ∀ i j : Nat, i < c'.length → j < c'.length → (c'[i]? = c'[j]? ↔ sigV a c i = sigV a c j)) :
    ∀ i j : Nat, i < c'.length → j < c'.length → (c'[i]? = c'[j]? ↔ Eqv a i j) := by
  have M' := h.step hr hl hc hk
  have back := (h.count hl hc hk).2 rfl
  have hlc : c'.length = c.length := by rw [hl, h.len]
  intro i j hi hj
  refine ⟨fun hij w => ?_, fun he => M'.eq i j hi hj he⟩
  -- by the word
  have key : ∀ (w : List Int) (i j : Nat), i < c'.length → j < c'.length → c'[i]? = c'[j]? → (0 ≤ runV a.ed i w ↔ 0 ≤ runV a.ed j w) ∧ (runV a.ed i w ∈ a.mr ↔ runV a.ed j w ∈ a.mr) := by
    intro w
    induction w with
    | nil => intro i j hi hj hij; exact ⟨by simp only [runV]; omega, M'.mkd i j hi hij⟩
    | cons e w ih =>
      intro i j hi hj hij
      have i0 : (0 : Int) ≤ (i : Int) := by omega
      have j0 : (0 : Int) ≤ (j : Int) := by omega
      simp only [runV, i0, j0, if_true]
      have hs := congrArg Prod.snd ((hk i j hi hj).1 hij)
      simp only [sigV] at hs
      have one : ∀ (i j : Nat), (outOf a.ed i).map (fun x => (x.ev, clsV c x.dst)) = (outOf a.ed j).map (fun x => (x.ev, clsV c x.dst)) → ∀ x, x ∈ a.ed → x.src = (i : Int) → x.ev = e → ∃ y, y ∈ a.ed ∧ y.src = (j : Int) ∧ y.ev = e ∧ clsV c y.dst = clsV c x.dst := fun i j hs x hx h1 h2 => by
        have : (x.ev, clsV c x.dst) ∈ (outOf a.ed j).map (fun x => (x.ev, clsV c x.dst)) := by rw [← hs]; exact List.mem_map.2 ⟨x, mem_outOf.2 ⟨hx, h1⟩, rfl⟩
        obtain ⟨y, hy, hyx⟩ := List.mem_map.1 this
        obtain ⟨y1, y2⟩ := mem_outOf.1 hy
        rw [Prod.mk.injEq] at hyx
        exact ⟨y, y1, y2, by rw [hyx.1, h2], hyx.2⟩
      have neg : ∀ x : Int, x = -1 → ∀ w, ¬ 0 ≤ runV a.ed x w ∧ ¬ runV a.ed x w ∈ a.mr := fun x hx w => by
        rw [runV_neg _ (by omega)]
        exact ⟨by omega, fun hm => by have := (hr.mem hm).1; omega⟩
      rcases hr.next_cases i e with g | ⟨g0, g1, x, hx, x1, x2, x3⟩ <;> rcases hr.next_cases j e with g' | ⟨g0', g1', y, hy, y1, y2, y3⟩
      · exact ⟨⟨fun q => absurd q (neg _ g w).1, fun q => absurd q (neg _ g' w).1⟩, ⟨fun q => absurd q (neg _ g w).2, fun q => absurd q (neg _ g' w).2⟩⟩
      · obtain ⟨x, hx, h1, h2, _⟩ := one j i hs.symm y hy y1 y2
        have := edge_next hr hx
        rw [h1, h2] at this; omega
      · obtain ⟨y, hy, h1, h2, _⟩ := one i j hs x hx x1 x2
        have := edge_next hr hy
        rw [h1, h2] at this; omega
      · obtain ⟨z, hz, z1, z2, z3⟩ := one i j hs x hx x1 x2
        obtain rfl : z = y := hr.uniq hz hy (by omega) (by omega)
        have hn := h.len
        have b1 := edge_next hr hx
        have b2 := edge_next hr hz
        rw [← x3, ← y3]
        have p1 : x.dst.toNat < c.length := by omega
        have p2 : z.dst.toNat < c.length := by omega
        have := back x.dst.toNat z.dst.toNat p1 p2 (by
          unfold clsV at z3
          rw [getD_lt _ p1, getD_lt _ p2] at z3
          rw [List.getElem?_eq_getElem p1, List.getElem?_eq_getElem p2, z3])
        have q := ih x.dst.toNat z.dst.toNat (by omega) (by omega) this
        rw [Int.toNat_of_nonneg (by omega), Int.toNat_of_nonneg (by omega)] at q
        exact q
  exact key w i j hi hj hij
end

/-! What Minimize and Trim give -/
structure Mini (a m : Au) : Prop where
  al : m.al = a.al
  rt : m.Right
  num : Num m.ed m.n
  gen : ∀ w, 0 ≤ rn m w ↔ 0 ≤ rn a w
  mkd : ∀ w, rn m w ∈ m.mr ↔ rn a w ∈ a.mr
  ds : ∀ i j : Int, 0 ≤ i → i < m.n → 0 ≤ j → j < m.n → Eqv m i j → i = j
structure Trimd (a t : Au) : Prop where
  al : t.al = a.al
  rt : t.Right
  num : Num t.ed t.n
  co : ∀ i : Int, 0 ≤ i → i < t.n → ∃ w, runV t.ed i w ∈ t.mr
  lang : ∀ w, rn t w ∈ t.mr ↔ rn a w ∈ a.mr
theorem Mini.isMin {a t m : Au} (ht : Trimd a t) (hm : Mini t m) : IsMin m (fun w => rn a w ∈ a.mr) := by
  have hws := hm.num.ws hm.rt
  have co : ∀ i : Int, 0 ≤ i → i < m.n → ∃ w, runV m.ed i w ∈ m.mr := fun i h0 h1 => by
    obtain ⟨ws, hl, _, hw⟩ := hws
    obtain ⟨k, rfl⟩ := Int.eq_ofNat_of_zero_le h0
    have hk : k < ws.length := by omega
    have g := (hw k _ (List.getElem?_eq_getElem hk)).is
    have g0 := (hm.gen ws[k]).1 (by rw [g]; omega)
    rcases ht.rt.rn_cases ws[k] with q | q
    · omega
    · obtain ⟨v, hv⟩ := ht.co _ q.1 q.2
      rw [← rn_app] at hv
      refine ⟨v, ?_⟩
      have := (hm.mkd _).2 hv
      rw [rn_app, g] at this
      exact this
  refine ⟨hm.rt, hws, co, fun i j i0 i1 j0 j1 h => hm.ds i j i0 i1 j0 j1 fun w => ⟨?_, h w⟩, fun w => (hm.mkd w).trans (ht.lang w)⟩
  have one : ∀ i j : Int, 0 ≤ i → i < m.n → (∀ w, runV m.ed i w ∈ m.mr ↔ runV m.ed j w ∈ m.mr) → 0 ≤ runV m.ed i w → 0 ≤ runV m.ed j w := fun i j i0 i1 h hp => by
    obtain ⟨v, hv⟩ := co _ hp (hm.rt.run_lt w i i0 i1 hp)
    rw [← runV_app] at hv
    have := (h _).1 hv
    rw [runV_app] at this
    rcases Int.lt_or_le (runV m.ed j w) 0 with k | k
    · rw [runV_neg _ k] at this
      have := (hm.rt.mem this).1; omega
    · exact k
  exact ⟨one i j i0 i1 h, one j i j0 j1 fun w => (h w).symm⟩
end Go.Proofs.YtkifgffhoenaoaaDoor

namespace Go.Proofs.YtkifgffhoenaoaaDoor
set_option linter.unusedSimpArgs false
set_option linter.unusedVariables false

section
variable {a : Au}
/-- The edges of a state that lead to a state which is kept. -/
def outK (a : Au) (keep : Int → Bool) (v : Int) : List (Int × Int) := ((outOf a.ed v.toNat).filter fun x => keep x.dst).map fun x => (x.ev, x.dst)
theorem mem_outK (hr : a.Right) {keep : Int → Bool} {v e t : Int} (hv : 0 ≤ v) : (e, t) ∈ outK a keep v ↔ nextV a.ed v e = t ∧ 0 ≤ t ∧ keep t = true := by
  constructor
  · intro h
    obtain ⟨x, hx, he⟩ := List.mem_map.1 h
    rw [List.mem_filter, mem_outOf] at hx
    obtain ⟨⟨h1, h2⟩, h3⟩ := hx
    rw [Prod.mk.injEq] at he
    obtain ⟨rfl, rfl⟩ := he
    have := edge_next hr h1
    rw [h2, Int.toNat_of_nonneg hv] at this
    exact ⟨this.1, this.2.2.2.1, h3⟩
  · rintro ⟨h1, h2, h3⟩
    rcases hr.next_cases v e with g | ⟨_, _, x, hx, x1, x2, x3⟩
    · omega
    · refine List.mem_map.2 ⟨x, ?_, by rw [x2, x3, h1]⟩
      rw [List.mem_filter, mem_outOf]
      exact ⟨⟨hx, by omega⟩, by rw [x3, h1]; exact h3⟩
theorem outK_ups (hr : a.Right) (keep : Int → Bool) (v : Int) : Ups (outK a keep v) := by
  have h1 : (outOf a.ed v.toNat).Pairwise (fun x y => x.ev < y.ev) := List.pairwise_iff_getElem.2 fun i j hi hj hij => outOf_rises hr v.toNat i j _ _ hij (List.getElem?_eq_getElem hi) (List.getElem?_eq_getElem hj)
  have h2 := h1.filter (fun x => keep x.dst)
  intro p q x y hpq hx hy
  unfold outK at hx hy
  rw [List.getElem?_map, Option.map_eq_some_iff] at hx hy
  obtain ⟨u, hu, rfl⟩ := hx
  obtain ⟨z, hz, rfl⟩ := hy
  obtain ⟨hi, e1⟩ := List.getElem?_eq_some_iff.1 hu
  obtain ⟨hj, e2⟩ := List.getElem?_eq_some_iff.1 hz
  have := List.pairwise_iff_getElem.1 h2 p q hi hj hpq
  rw [e1, e2] at this
  exact this
theorem stepS_outK (hr : a.Right) {keep : Int → Bool} {v e : Int} (hv : 0 ≤ v) : stepS (outK a keep) v e = if 0 ≤ nextV a.ed v e ∧ keep (nextV a.ed v e) = true then some (nextV a.ed v e) else none := by
  split
  · rename_i h
    exact stepS_mem (outK_ups hr keep v) ((mem_outK hr hv).2 ⟨rfl, h⟩)
  · rename_i h
    cases hs : stepS (outK a keep) v e with
    | none => rfl
    | some t =>
      obtain ⟨h1, h2, h3⟩ := (mem_outK hr hv).1 (stepS_some hs)
      subst h1
      exact absurd ⟨h2, h3⟩ h
/-- Where words lead that keep within. -/
def runK (a : Au) (keep : Int → Bool) : Int → List Int → Option Int
  | v, [] => some v
  | v, e :: r => if 0 ≤ nextV a.ed v e ∧ keep (nextV a.ed v e) = true then runK a keep (nextV a.ed v e) r else none
theorem runS_outK (hr : a.Right) (keep : Int → Bool) : ∀ (w : List Int) (v : Int), 0 ≤ v → runS (outK a keep) v w = runK a keep v w
  | [], v, _ => rfl
  | e :: r, v, hv => by
    simp only [runS, runK, stepS_outK hr hv]
    by_cases h : 0 ≤ nextV a.ed v e ∧ keep (nextV a.ed v e) = true
    · rw [if_pos h, if_pos h]
      exact runS_outK hr keep r _ h.1
    · rw [if_neg h, if_neg h]
theorem runK_some (keep : Int → Bool) : ∀ (w : List Int) (v t : Int), 0 ≤ v → runK a keep v w = some t → runV a.ed v w = t ∧ 0 ≤ t
  | [], v, t, hv, h => by simp [runK] at h; subst h; exact ⟨rfl, hv⟩
  | e :: r, v, t, hv, h => by
    simp only [runK] at h
    split at h
    · rename_i g
      simp only [runV, hv, if_true]
      exact runK_some keep r _ t g.1 h
    · cases h
theorem runK_of (hr : a.Right) (keep : Int → Bool) (hk : ∀ v w, 0 ≤ v → runV a.ed v w ∈ a.mr → keep v = true) : ∀ (w : List Int) (v : Int), 0 ≤ v → runV a.ed v w ∈ a.mr → runK a keep v w = some (runV a.ed v w)
  | [], v, _, _ => rfl
  | e :: r, v, hv, h => by
    simp only [runV, hv, if_true] at h ⊢
    have h0 : 0 ≤ nextV a.ed v e := by
      rcases Int.lt_or_le (nextV a.ed v e) 0 with g | g
      · rw [runV_neg _ g] at h; have := (hr.mem h).1; omega
      · exact g
    simp only [runK]
    rw [if_pos ⟨h0, hk _ r h0 h⟩]
    exact runK_of hr keep hk r _ h0 h
theorem runK_all (hr : a.Right) : ∀ (w : List Int) (v : Int), 0 ≤ v → runK a (fun _ => true) v w = if 0 ≤ runV a.ed v w then some (runV a.ed v w) else none
  | [], v, hv => by simp [runK, runV, hv]
  | e :: r, v, hv => by
    simp only [runK, runV, hv, if_true, and_true]
    split
    · rename_i h
      exact runK_all hr r _ h
    · rename_i h
      rw [runV_neg _ (by omega), if_neg h]
/-- merge, by classes of what nothing tells apart. -/
theorem Built.mini (hr : a.Right) (hn : 0 < a.n) {c : List Int} (hl : c.length = a.n.toNat) (hc : ∀ i j : Nat, i < c.length → j < c.length → (c[i]? = c[j]? ↔ Eqv a i j)) {m : Au} {fs : List Int}
    (B : Built (clsV c) (outK a fun _ => true) 0 m fs) (hfs : ∀ v, v ∈ fs → 0 ≤ v ∧ v < a.n) (hal : m.al = a.al) (hm : ∀ d : Nat, (d : Int) ∈ m.mr ↔ ∃ v, fs[d]? = some v ∧ v ∈ a.mr) : Mini a m := by
  have hcl : ∀ v v' : Int, 0 ≤ v ∧ v < a.n → 0 ≤ v' ∧ v' < a.n → (clsV c v = clsV c v' ↔ Eqv a v v') := fun v v' hv hv' => by
    have e1 : v.toNat < c.length := by omega
    have e2 : v'.toNat < c.length := by omega
    have := hc v.toNat v'.toNat e1 e2
    rw [Int.toNat_of_nonneg hv.1, Int.toNat_of_nonneg hv'.1] at this
    rw [← this]
    unfold clsV
    rw [getD_lt _ e1, getD_lt _ e2, List.getElem?_eq_getElem e1, List.getElem?_eq_getElem e2, Option.some.injEq]
  have CG : Cong (fun v : Int => 0 ≤ v ∧ v < a.n) (clsV c) (outK a fun _ => true) := by
    refine ⟨fun v hv e t h => ?_, fun v v' hv hv' hk e t h => ?_, fun v _ => outK_ups hr _ v⟩
    · obtain ⟨h1, h2, _⟩ := (mem_outK hr hv.1).1 h
      rcases hr.next_cases v e with g | g
      · omega
      · omega
    · obtain ⟨h1, h2, _⟩ := (mem_outK hr hv.1).1 h
      have he := ((hcl v v' hv hv').1 hk).next hv.1 hv'.1 e
      rw [h1] at he
      have h3 : 0 ≤ nextV a.ed v' e := by have := (he []).1.1 h2; simpa only [runV] using this
      have h4 : nextV a.ed v' e < a.n := by
        rcases hr.next_cases v' e with g | g
        · omega
        · omega
      have h5 : t < a.n := by
        rcases hr.next_cases v e with g | g
        · omega
        · omega
      exact ⟨_, (mem_outK hr hv'.1).2 ⟨rfl, h3, rfl⟩, (hcl _ _ ⟨h3, h4⟩ ⟨h2, h5⟩).2 he.symm⟩
  have hst : a.st = 0 := if_neg (by omega)
  have hrun := B.run CG ⟨Int.le_refl _, hn⟩ hfs
  have hR : ∀ w, runS (outK a fun _ => true) 0 w = if 0 ≤ rn a w then some (rn a w) else none := fun w => by
    rw [runS_outK hr _ w 0 (Int.le_refl _), runK_all hr w 0 (Int.le_refl _)]
    unfold rn
    rw [hst]
  have both : ∀ w, (rn m w = -1 ∧ ¬ 0 ≤ rn a w) ∨ ∃ (d : Nat) (u : Int), rn m w = d ∧ fs[d]? = some u ∧ 0 ≤ rn a w ∧ Eqv a u (rn a w) := fun w => by
    have hw := hR w
    rcases hrun w with ⟨g1, g2⟩ | ⟨d, u, t, g1, g2, g3, g4, g5⟩
    · rw [g2] at hw
      refine .inl ⟨g1, fun h => ?_⟩
      rw [if_pos h] at hw; cases hw
    · rw [g3] at hw
      split at hw
      · rename_i h
        obtain rfl := Option.some.inj hw
        exact .inr ⟨d, u, g1, g2, h, (hcl u _ (hfs u (List.mem_of_getElem? g2)) g5).1 g4⟩
      · cases hw
  have mk : ∀ w, rn m w ∈ m.mr ↔ rn a w ∈ a.mr := fun w => by
    rcases both w with ⟨g1, g2⟩ | ⟨d, u, g1, g2, g3, g4⟩
    · constructor
      · intro h; have := (B.rt.mem h).1; omega
      · intro h; exact absurd (hr.mem h).1 g2
    · rw [g1, hm]
      have := (g4 []).2
      simp only [runV] at this
      constructor
      · rintro ⟨v, h1, h2⟩
        rw [g2] at h1; cases h1
        exact this.1 h2
      · intro h; exact ⟨u, g2, this.2 h⟩
  have gen : ∀ w, 0 ≤ rn m w ↔ 0 ≤ rn a w := fun w => by
    rcases both w with ⟨g1, g2⟩ | ⟨d, u, g1, g2, g3, g4⟩
    · exact ⟨fun h => by omega, fun h => absurd h g2⟩
    · exact ⟨fun _ => g3, fun _ => by omega⟩
  refine ⟨hal, B.rt, B.num, gen, mk, fun i j i0 i1 j0 j1 he => ?_⟩
  obtain ⟨ws, hwl, _, hw⟩ := B.num.ws B.rt
  obtain ⟨p, rfl⟩ := Int.eq_ofNat_of_zero_le i0
  obtain ⟨q, rfl⟩ := Int.eq_ofNat_of_zero_le j0
  have hp : p < ws.length := by omega
  have hq : q < ws.length := by omega
  have r1 := (hw p _ (List.getElem?_eq_getElem hp)).is
  have r2 := (hw q _ (List.getElem?_eq_getElem hq)).is
  rcases both ws[p] with ⟨g1, _⟩ | ⟨d, u, g1, g2, g3, g4⟩
  · omega
  rcases both ws[q] with ⟨k1, _⟩ | ⟨d', u', k1, k2, k3, k4⟩
  · omega
  obtain rfl : d = p := by omega
  obtain rfl : d' = q := by omega
  have hE : Eqv a (rn a ws[d]) (rn a ws[d']) := fun w => by
    rw [← rn_app, ← rn_app, ← gen, ← gen, ← mk, ← mk, rn_app, rn_app, r1, r2]
    exact he w
  have hU : Eqv a u u' := fun w => ⟨((g4 w).1.trans (hE w).1).trans (k4 w).1.symm, ((g4 w).2.trans (hE w).2).trans (k4 w).2.symm⟩
  have := B.nd d d' u u' g2 k2 ((hcl u u' (hfs u (List.mem_of_getElem? g2)) (hfs u' (List.mem_of_getElem? k2))).2 hU)
  omega
/-- Restrict, to the states from which a marked one is reached. -/
theorem Built.trim (hr : a.Right) {keep : Int → Bool} (hk : ∀ v : Int, 0 ≤ v → v < a.n → (keep v = true ↔ ∃ w, runV a.ed v w ∈ a.mr)) (h0 : 0 < a.n) (hk0 : keep 0 = true) {t : Au} {fs : List Int}
    (B : Built id (outK a keep) 0 t fs) (hfs : ∀ v, v ∈ fs → 0 ≤ v ∧ v < a.n ∧ keep v = true) (hal : t.al = a.al) (hm : ∀ d : Nat, (d : Int) ∈ t.mr ↔ ∃ v, fs[d]? = some v ∧ v ∈ a.mr) : Trimd a t := by
  have CG : Cong (fun v : Int => 0 ≤ v ∧ v < a.n) id (outK a keep) := by
    refine ⟨fun v hv e t h => ?_, fun v v' hv hv' hk' e t h => ⟨t, by rw [← (show v = v' from hk')]; exact h, rfl⟩, fun v _ => outK_ups hr _ v⟩
    obtain ⟨h1, h2, _⟩ := (mem_outK hr hv.1).1 h
    rcases hr.next_cases v e with g | g
    · omega
    · omega
  have hst : a.st = 0 := if_neg (by omega)
  have hrun := B.run CG ⟨Int.le_refl _, h0⟩ (fun v hv => ⟨(hfs v hv).1, (hfs v hv).2.1⟩)
  have keepR : ∀ v w, 0 ≤ v → runV a.ed v w ∈ a.mr → v < a.n → keep v = true := fun v w hv hw hn => (hk v hv hn).2 ⟨w, hw⟩
  -- where a marked state is reached the word keeps within
  have within : ∀ (w : List Int) (v : Int), 0 ≤ v → v < a.n → runV a.ed v w ∈ a.mr → runK a keep v w = some (runV a.ed v w) := by
    intro w
    induction w with
    | nil => intro v _ _ _; rfl
    | cons e r ih =>
      intro v hv hn h
      simp only [runV, hv, if_true] at h ⊢
      rcases hr.next_cases v e with g | g
      · rw [g, runV_neg _ (by omega)] at h
        have := (hr.mem h).1; omega
      · simp only [runK]
        rw [if_pos ⟨g.1, (hk _ g.1 g.2.1).2 ⟨r, h⟩⟩]
        exact ih _ g.1 g.2.1 h
  have hR : ∀ w, runS (outK a keep) 0 w = runK a keep 0 w := fun w => runS_outK hr _ w 0 (Int.le_refl _)
  have lang : ∀ w, rn t w ∈ t.mr ↔ rn a w ∈ a.mr := fun w => by
    have ea : rn a w = runV a.ed 0 w := by unfold rn; rw [hst]
    rcases hrun w with ⟨g1, g2⟩ | ⟨d, u, x, g1, g2, g3, g4, g5⟩
    · constructor
      · intro h; have := (B.rt.mem h).1; omega
      · intro h
        rw [ea] at h
        have := within w 0 (Int.le_refl _) h0 h
        rw [← hR, g2] at this; cases this
    · rw [hR] at g3
      have := runK_some keep w 0 x (Int.le_refl _) g3
      obtain rfl : u = x := g4
      rw [g1, hm, ea, this.1]
      exact ⟨fun ⟨v, h1, h2⟩ => by rw [g2] at h1; cases h1; exact h2, fun h => ⟨u, g2, h⟩⟩
  refine ⟨hal, B.rt, B.num, fun i i0 i1 => ?_, lang⟩
  obtain ⟨ws, hwl, _, hw⟩ := B.num.ws B.rt
  obtain ⟨p, rfl⟩ := Int.eq_ofNat_of_zero_le i0
  have hp : p < ws.length := by omega
  have r1 := (hw p _ (List.getElem?_eq_getElem hp)).is
  rcases hrun ws[p] with ⟨g1, _⟩ | ⟨d, u, x, g1, g2, g3, g4, g5⟩
  · omega
  obtain rfl : d = p := by omega
  obtain rfl : u = x := g4
  obtain ⟨f0, f1, f2⟩ := hfs u (List.mem_of_getElem? g2)
  obtain ⟨v, hv⟩ := (hk u f0 f1).1 f2
  refine ⟨v, ?_⟩
  rw [← r1, ← rn_app, lang]
  rw [hR] at g3
  have := runK_some keep _ 0 u (Int.le_refl _) g3
  rw [rn_app]
  have e2 : rn a ws[d] = u := by unfold rn; rw [hst]; exact this.1
  rw [e2]; exact hv
/-- Nothing is kept: the language is empty. -/
theorem Trimd.empty (hr : a.Right) (h : a.n = 0 ∨ 0 < a.n ∧ ∀ w, ¬ runV a.ed 0 w ∈ a.mr) : Trimd a ⟨a.al, 0, [], []⟩ := by
  have hrt : (⟨a.al, 0, [], []⟩ : Au).Right := ⟨hr.al, Int.le_refl _, by show (0 : Int) ≤ 4096; decide, fun i x hi => by simp at hi, fun i hi => by simp at hi⟩
  refine ⟨rfl, hrt, fun k h1 h2 => by simp only at h2; omega, fun i h1 h2 => by simp only at h2; omega, fun w => ⟨fun hm => by simp at hm, fun hm => ?_⟩⟩
  rcases h with h | ⟨h, h'⟩
  · have := hr.mem hm; omega
  · exact absurd (by have hst : a.st = 0 := if_neg (by omega); unfold rn at hm; rw [hst] at hm; exact hm) (h' w)
end
end Go.Proofs.YtkifgffhoenaoaaDoor

namespace Go.Proofs.YtkifgffhoenaoaaDoor
open Go.RowKit
set_option linter.unusedSimpArgs false
set_option linter.unusedVariables false
set_option maxRecDepth 100000

def keyI (x : Int) : Value := .int .i64 x
def veI (x : Int) : Value := .int .i64 x
def veB (b : Bool) : Value := .bool b
theorem int_eq (p q : Int) (n : Nat) (w : World) : (Op.equalIn (n + 1) 3 (.int .i64 p) (.int .i64 q)).run Tryd.prog w = .ok (p == q) w := by
  simp [Op.equalIn, run_underlying Tryd.underlying3]
theorem range2 : List.range' 0 2 = [0, 1] := rfl
theorem okI : KeyG Tryd.prog 3 (.int .i64) keyI := ⟨Tryd.underlying3, fun x y w => by
  simp only [Op.equal, Op.maxDepth, keyI]
  rw [int_eq]
  first | rfl | (congr 1; rw [Bool.eq_iff_iff]; simp), fun em x w => by cases em <;> kernel_rfl, fun x w => by simp [Instr.keyThatStays, keyI, Instr.sameBits], .inr fun x y => by
  simp [Instr.sameNow, keyI]
  rw [Bool.eq_iff_iff]; simp, fun x y h => by simpa [keyI] using h⟩
theorem key2_eq (x y : Int × Int) (w : World) : (Op.equal 74 (key2 x) (key2 y)).run Tryd.prog w = .ok (decide (x = y)) w := by
  obtain ⟨a, b⟩ := x
  obtain ⟨c, d⟩ := y
  simp only [Op.equal, Op.maxDepth, key2]
  rw [Op.equalIn]
  by_cases h1 : a = c <;> by_cases h2 : b = d <;> simp [run_underlying Tryd.underlying74, Result.andThen, go_sem, range2, Tryd.isAgg3, int_eq, h1, h2]
theorem ok2 : KeyG Tryd.prog 74 (.array 2 3) key2 := ⟨Tryd.underlying74, key2_eq, fun em x w => by
  obtain ⟨a, b⟩ := x
  cases em <;> kernel_rfl, fun x w => by
  obtain ⟨a, b⟩ := x
  simp [Instr.keyThatStays, key2, Instr.sameBits], .inl fun _ _ => rfl, fun x y h => by
  obtain ⟨a, b⟩ := x
  obtain ⟨c, d⟩ := y
  simpa [key2] using h⟩
theorem keyP_eq (x y : Int × Int) (w : World) : (Op.equal 75 (key2 x) (key2 y)).run Tryd.prog w = .ok (decide (x = y)) w := by
  obtain ⟨a, b⟩ := x
  obtain ⟨c, d⟩ := y
  simp only [Op.equal, Op.maxDepth, key2]
  rw [Op.equalIn]
  by_cases h1 : a = c <;> by_cases h2 : b = d <;> simp [run_underlying Tryd.underlying75, Result.andThen, go_sem, range2, Tryd.isAgg3, int_eq, h1, h2]
theorem okP : KeyG Tryd.prog 75 (.array 2 3) key2 := ⟨Tryd.underlying75, keyP_eq, fun em x w => by
  obtain ⟨a, b⟩ := x
  cases em <;> kernel_rfl, fun x w => by
  obtain ⟨a, b⟩ := x
  simp [Instr.keyThatStays, key2, Instr.sameBits], .inl fun _ _ => rfl, fun x y h => by
  obtain ⟨a, b⟩ := x
  obtain ⟨c, d⟩ := y
  simpa [key2] using h⟩
theorem zeroI (w : World) : (zeroValue 3).run Tryd.prog w = .ok (veI 0) w := by kernel_rfl
theorem zeroB (w : World) : (zeroValue 4).run Tryd.prog w = .ok (veB false) w := by kernel_rfl

def setF (l : List Int) (x : Int) : Option Bool := if x ∈ l then some true else none
theorem setF_snoc (l : List Int) (x y : Int) : setF (l ++ [x]) y = if y = x then some true else setF l y := by
  by_cases h : y = x
  · simp [setF, h]
  · simp [setF, h]
theorem setF_getD (l : List Int) (x : Int) : (setF l x).getD false = decide (x ∈ l) := by
  by_cases h : x ∈ l <;> simp [setF, h]
/-- The machine of an automaton, at a block. -/
structure Mach (w : World) (b : Nat) (a : Au) : Prop where
  ex : ∃ m1 m2, BlkAt w b 104 [.map (some m1), .map (some m2), .int .i64 a.st] ∧ MapG key2 veI w m1 (stepOf a.ed) ∧ MapG keyI veB w m2 (setF a.mr)
/-- The same, with the maps' blocks. -/
structure Mach3 (w : World) (b m1 m2 : Nat) (a : Au) : Prop where
  blk : BlkAt w b 104 [.map (some m1), .map (some m2), .int .i64 a.st]
  f1 : MapG key2 veI w m1 (stepOf a.ed)
  f2 : MapG keyI veB w m2 (setF a.mr)
theorem Mach3.mach {w : World} {b m1 m2 : Nat} {a : Au} (h : Mach3 w b m1 m2 a) : Mach w b a := ⟨m1, m2, h.blk, h.f1, h.f2⟩
theorem Mach3.below {w w' : World} {b m1 m2 : Nat} {a : Au} (h : Mach3 w b m1 m2 a) (hb : Below w.heap.size w w') : Mach3 w' b m1 m2 a :=
  ⟨h.blk.below hb h.blk.lt, h.f1.below hb h.f1.lt, h.f2.below hb h.f2.lt⟩
theorem Mach3.alloc {w : World} {b m1 m2 : Nat} {a : Au} (h : Mach3 w b m1 m2 a) (o : Obj) : Mach3 (w.alloc o) b m1 m2 a := h.below (Below.new w o)
theorem Mach3.drew {w : World} {b m1 m2 : Nat} {a : Au} (h : Mach3 w b m1 m2 a) : Mach3 w.drew b m1 m2 a := ⟨h.blk, h.f1, h.f2⟩
theorem Mach3.lts {w : World} {b m1 m2 : Nat} {a : Au} (h : Mach3 w b m1 m2 a) : b < w.heap.size ∧ m1 < w.heap.size ∧ m2 < w.heap.size := ⟨h.blk.lt, h.f1.lt, h.f2.lt⟩
theorem MapG.setC {κ β : Type} [DecidableEq κ] {key : κ → Value} {ve : β → Value} {w : World} {b n i : Nat} {f : κ → Option β} (h : MapG key ve w b f) (hn : n ≠ b) (u : Value) : MapG key ve (w.setCell ⟨n, i, none⟩ u) b f := by
  obtain ⟨l, c, h1, h2⟩ := h
  exact ⟨l, c, (heap_setCell_other w ⟨n, i, none⟩ b u (fun e => hn e.symm)).trans h1, h2⟩
theorem Mach3.far {w : World} {b m1 m2 n i : Nat} {a : Au} (h : Mach3 w b m1 m2 a) (h0 : n ≠ b) (h1 : n ≠ m1) (h2 : n ≠ m2) (u : Value) : Mach3 (w.setCell ⟨n, i, none⟩ u) b m1 m2 a :=
  ⟨h.blk.far (fun e => h0 e.symm) u, h.f1.setC h1 u, h.f2.setC h2 u⟩
theorem Mach.below {w w' : World} {b : Nat} {a : Au} (h : Mach w b a) (hb : Below w.heap.size w w') : Mach w' b a := by
  obtain ⟨m1, m2, h1, h2, h3⟩ := h.ex
  exact ⟨m1, m2, h1.below hb h1.lt, h2.below hb h2.lt, h3.below hb h3.lt⟩
theorem Mach.lt {w : World} {b : Nat} {a : Au} (h : Mach w b a) : b < w.heap.size := by
  obtain ⟨m1, m2, h1, _⟩ := h.ex
  exact h1.lt
theorem Mach.first {w : World} {b : Nat} {a : Au} (h : Mach w b a) : w.cell? ⟨b, 2, none⟩ = some (.int .i64 a.st) := by
  obtain ⟨m1, m2, h1, _⟩ := h.ex
  exact h1.cell 2

set_option maxHeartbeats 1000000 in
theorem mstep_c (b : Nat) (a : Au) (s e : Int) (w : World) (h : Mach w b a) :
    Calls Tryd.prog 68 #[.pointer (some ⟨b, 0, none⟩), .int .i64 s, .int .i64 e] w fun r w' => r = .returned (.int .i64 (toV (stepOf a.ed) s e)) ∧ w = w' := by
  obtain ⟨m1, m2, h1, h2, _⟩ := h.ex
  have c0 : w.cell? ⟨b, 0, none⟩ = some (.map (some m1)) := h1.cell 0
  have hl : (Instr.lookup 101 (.map (some m1)) (.agg #[.int .i64 s, .int .i64 e]) true).run Tryd.prog w = .ok (.tuple #[.int .i64 ((stepOf a.ed (s, e)).getD 0), .bool (stepOf a.ed (s, e)).isSome]) w := (MapG.look ok2 Tryd.underlying101 zeroI h2 (s, e)).1
  clear h h1 h2
  unfold toV
  cases hf : stepOf a.ed (s, e) with
  | none =>
    rw [hf] at hl
    clear hf
    go_enter Tryd.func68, Tryd.ntmps68
    go_wp2
    go_ret
    exact ⟨rfl, rfl⟩
  | some t =>
    rw [hf] at hl
    clear hf
    go_enter Tryd.func68, Tryd.ntmps68
    go_wp2
    go_ret
    exact ⟨rfl, rfl⟩

/-- The words that lead to a state belong to a language. -/
def inV (a : Au) (s kind : Int) : Bool := decide (0 ≤ s) && (decide (kind = 1) || decide (s ∈ a.mr))
set_option maxHeartbeats 1000000 in
theorem min_c (b : Nat) (a : Au) (s kind : Int) (w : World) (h : Mach w b a) :
    Calls Tryd.prog 42 #[.pointer (some ⟨b, 0, none⟩), .int .i64 s, .int .i64 kind] w fun r w' => r = .returned (.bool (inV a s kind)) ∧ w = w' := by
  obtain ⟨m1, m2, h1, _, h3⟩ := h.ex
  have c1 : w.cell? ⟨b, 1, none⟩ = some (.map (some m2)) := h1.cell 1
  have hl : (Instr.lookup 102 (.map (some m2)) (.int .i64 s) false).run Tryd.prog w = .ok (.bool (decide (s ∈ a.mr))) w := by
    have := (MapG.look okI Tryd.underlying102 zeroB h3 s).2
    rw [setF_getD] at this
    exact this
  clear h h1 h3
  unfold inV
  generalize decide (s ∈ a.mr) = d at *
  by_cases hs : 0 ≤ s
  · have hs' : decide (0 ≤ s) = true := by simpa using hs
    by_cases hk : kind = 1
    · subst hk
      go_enter Tryd.func42, Tryd.ntmps42
      go_wp2
      go_ret
      exact ⟨by simp [hs], rfl⟩
    · have hk' : (kind == 1) = false := by simpa using hk
      go_enter Tryd.func42, Tryd.ntmps42
      go_wp2
      go_ret
      exact ⟨by simp [hs, hk], rfl⟩
  · have hs' : decide (0 ≤ s) = false := by simpa using hs
    go_enter Tryd.func42, Tryd.ntmps42
    go_wp2
    go_ret
    exact ⟨by simp [hs], rfl⟩
end Go.Proofs.YtkifgffhoenaoaaDoor

namespace Go.Proofs.YtkifgffhoenaoaaDoor
open Go.RowKit
set_option linter.unusedSimpArgs false
set_option linter.unusedVariables false

section
variable {κ β : Type} [DecidableEq κ]
def MapC (key : κ → Value) (ve : β → Value) (w : World) (b : Nat) (f : κ → Option β) (c : Nat) : Prop :=
  ∃ (l : List (κ × β × Nat)) (clock : Nat), w.heap[b]? = some (.map (l.map (entryG key ve)).toArray clock) ∧ (∀ x, f x = valG l x) ∧ l.length = c
variable {key : κ → Value} {ve : β → Value} {w : World} {b c : Nat} {f : κ → Option β}
theorem MapC.g (h : MapC key ve w b f c) : MapG key ve w b f := by
  obtain ⟨l, k, h1, h2, _⟩ := h
  exact ⟨l, k, h1, h2⟩
theorem MapC.made (key : κ → Value) (ve : β → Value) (w : World) : MapC key ve (w.alloc (.map #[] 0)) w.heap.size (fun _ => none) 0 := ⟨[], 0, (MapKept.heap_alloc w _).1, fun _ => rfl, rfl⟩
theorem MapC.congr {g : κ → Option β} (h : MapC key ve w b f c) (hg : ∀ x, g x = f x) : MapC key ve w b g c := by
  obtain ⟨l, k, h1, h2, h3⟩ := h
  exact ⟨l, k, h1, fun x => (hg x).trans (h2 x), h3⟩
/-- A map whose number of entries is known. -/
def eMapC (key : κ → Value) (ve : β → Value) (b : Nat) (f : κ → Option β) (c : Nat) : Ent where
  foot := [b]
  ok w := MapC key ve w b f c
  lt w h k hk := by simp at hk; subst hk; exact h.g.lt
  turn w w' h hg := by
    obtain ⟨l, c, h1, h2⟩ := h
    exact ⟨l, c, (hg b (by simp)).trans h1, h2⟩
theorem MapC.len {P : Program} {M T E : TypeId} (hM : P.underlying M = some (.map T E)) (h : MapC key ve w b f c) (ty : TypeId) : (Builtin.len_ #[M] ty #[.map (some b)]).run P w = .ok (.int .i64 c) w := by
  obtain ⟨l, k, h1, _, h3⟩ := h
  have := run_len_map (P := P) (w := w) M ty b _ k (by simp [Program.mapKeyOf, Program.mapElemOf, hM]) h1
  rw [this]
  simp [goInt, h3]
theorem MapC.store {P : Program} {M T E : TypeId} {D : TypeDesc} (K : KeyG P T D key) (hM : P.underlying M = some (.map T E)) (h : MapC key ve w b f c) (x : κ) (v : β) :
    ∃ w', (Instr.mapUpdate M (.map (some b)) (key x) (ve v)).run P w = .ok () w' ∧ MapC key ve w' b (fun y => if y = x then some v else f y) (if (f x).isSome then c else c + 1) ∧ w.grownBy w' (some b) := by
  obtain ⟨l, clk, hb, hf, hlen⟩ := h
  have hk := findKeyG_run (ve := ve) K x w l
  cases hj : l.findIdx? (fun e => decide (e.1 = x)) with
  | none =>
    rw [hj] at hk
    simp only [Option.bind_none] at hk
    have hfx : f x = none := (hf x).trans (valG_none hj)
    refine ⟨ChangeMaps.setBlock w b (.map ((l ++ [(x, v, clk)]).map (entryG key ve)).toArray (clk + 1)), ?_, ⟨l ++ [(x, v, clk)], clk + 1, ChangeMaps.heap_setBlock_same hb _, fun y => by rw [findG_push hj]; simp only [hf], by rw [hfx]; simp [hlen]⟩,
      ⟨rfl, rfl, rfl, by simp [ChangeMaps.setBlock], fun i _ hi => ChangeMaps.heap_setBlock_other hb _ (fun e => hi (by rw [e]))⟩⟩
    simp [Instr.mapUpdate, run_underlying hM, MapKept.run_getObj_map hb, K.chk, hk, MapKept.run_setObj_map _ hb, Result.andThen, ChangeMaps.setBlock, entryG]
  | some j =>
    obtain ⟨e, he, h1, h2, h3⟩ := valG_some hj
    have hfx : f x = some e.2.1 := (hf x).trans h2
    rw [hj] at hk
    simp only [Option.bind_some, he, Option.map_some] at hk
    refine ⟨ChangeMaps.setBlock w b (.map ((l.set j (e.1, v, e.2.2)).map (entryG key ve)).toArray clk), ?_, ⟨l.set j (e.1, v, e.2.2), clk, ChangeMaps.heap_setBlock_same hb _, fun y => by rw [findG_modify hj he]; simp only [hf], by rw [hfx]; simp [hlen]⟩,
      ⟨rfl, rfl, rfl, by simp [ChangeMaps.setBlock], fun i _ hi => ChangeMaps.heap_setBlock_other hb _ (fun e => hi (by rw [e]))⟩⟩
    have hm : (l.map (entryG key ve)).modify j (fun e' => { key := key x, val := ve v, born := e'.born }) = (l.set j (x, v, e.2.2)).map (entryG key ve) := by
      apply List.ext_getElem?
      intro i
      rw [List.getElem?_modify]
      simp only [List.getElem?_map, List.getElem?_set]
      by_cases hij : j = i
      · subst hij
        rw [he]
        simp [h3, entryG]
      · simp [hij]
    simp [Instr.mapUpdate, run_underlying hM, MapKept.run_getObj_map hb, K.chk, hk, he, entryG, h1, K.stay, MapKept.run_setObj_map _ hb, Result.andThen, ChangeMaps.setBlock]
    exact congrArg (fun q => w.heap.setIfInBounds b (Obj.map (List.toArray q) clk)) (by rw [hm, List.map_set]; rfl)
variable {n : Nat} {w0 w' : World} {es : List Ent}
theorem Sep.allocMapC (S : Sep n w0 es w) (key : κ → Value) (ve : β → Value) {g : Nat} (hg : g = w.heap.size) : Sep n w0 (eMapC key ve g (fun _ => none) 0 :: es) (w.alloc (.map #[] 0)) := by
  subst hg
  exact S.new1 (Below.new w _) (eMapC key ve w.heap.size (fun _ => none) 0) (MapC.made key ve w) (by simp [eMapC])
theorem Sep.storeC {P : Program} {M T E : TypeId} {D : TypeDesc} (S : Sep n w0 es w) (i : Nat) (hei : es[i]? = some (eMapC key ve b f c)) (K : KeyG P T D key) (hM : P.underlying M = some (.map T E)) (x : κ) (v : β) :
    ∃ w', (Instr.mapUpdate M (.map (some b)) (key x) (ve v)).run P w = .ok () w' ∧ Sep n w0 (es.set i (eMapC key ve b (fun y => if y = x then some v else f y) (if (f x).isSome then c else c + 1))) w' ∧ Off [b] w w' := by
  obtain ⟨w', h1, h2, h3⟩ := MapC.store K hM (S.get i hei) x v
  exact ⟨w', h1, S.chg i hei _ (Off.grown h3) h2 (fun g hg => .inl hg), Off.grown h3⟩
theorem wpList_mapUpdateC {P : Program} {ops : Array Oper} {rest : List Oper} {o : Oper} {a : Act} {Q : Exit → Act → World → Prop}
    (hg : o.guard = none) (m x v : Operand) (M T E : TypeId) (hop : o.op = Op.mapUpdate M m x v) {D : TypeDesc} (S : Sep n w0 es w) (i : Nat) (hei : es[i]? = some (eMapC key ve b f c)) (K : KeyG P T D key) (hM : P.underlying M = some (.map T E))
    (y : κ) (z : β) (hnew : f y = none) (hm : a.eval m = .map (some b)) (hx : a.eval x = key y) (hv : a.eval v = ve z)
    (hK : ∀ w', Sep n w0 (es.set i (eMapC key ve b (fun u => if u = y then some z else f u) (c + 1))) w' → Off [b] w w' → wpList P ops Q rest (a.put o.dst undef) w') :
    wpList P ops Q (o :: rest) a w := by
  refine wpList_plain hg fun K' hK' => ?_
  obtain ⟨w', hrun, r1, r2⟩ := S.storeC i hei K hM y z
  unfold Oper.wp
  simp [execOp, hop, hm, hx, hv, hrun, Result.andThen]
  exact hK' _ _ (hK w' (by rw [hnew] at r1; exact r1) r2)
theorem step_mapUpdateC {P : Program} {ops : Array Oper} {o : Oper} {a : Act} {K' : Act → World → Prop} {Q : Exit → Act → World → Prop} {F : Prop}
    (hg : o.guard = none) (m x v : Operand) (M T E : TypeId) (hop : o.op = Op.mapUpdate M m x v) {D : TypeDesc} (S : Sep n w0 es w) (i : Nat) (hei : es[i]? = some (eMapC key ve b f c)) (K : KeyG P T D key) (hM : P.underlying M = some (.map T E))
    (y : κ) (z : β) (hnew : f y = none) (hm : a.eval m = .map (some b)) (hx : a.eval x = key y) (hv : a.eval v = ve z)
    (hK : ∀ w', Sep n w0 (es.set i (eMapC key ve b (fun u => if u = y then some z else f u) (c + 1))) w' → Off [b] w w' → K' (a.put o.dst undef) w') :
    if Region.wanted o (yielded ops a.tmps) = true then Oper.wp P o a w K' Q else F := by
  have hw : Region.wanted o (yielded ops a.tmps) = true := by simp [Region.wanted, hg]
  rw [if_pos hw]
  obtain ⟨w', hrun, r1, r2⟩ := S.storeC i hei K hM y z
  unfold Oper.wp
  simp [execOp, hop, hm, hx, hv, hrun, Result.andThen]
  exact hK w' (by rw [hnew] at r1; exact r1) r2
end

def keyS (s : ByteArray) : Value := .string s
theorem beqS (x y : ByteArray) : (x == y) = decide (x = y) := by
  by_cases h : x = y
  · rw [decide_eq_true h]; exact (MapKept.bytes_beq x y).2 h
  · rw [decide_eq_false h]
    cases hb : x == y with
    | false => rfl
    | true => exact absurd ((MapKept.bytes_beq x y).1 hb) h
theorem okS : KeyG Tryd.prog 9 .string keyS := ⟨Tryd.underlying9, fun x y w => by
  simp only [Op.equal, Op.maxDepth, keyS]
  rw [Op.equalIn]
  simp only [Sem.run_bind, run_underlying Tryd.underlying9, Result.andThen_ok, Sem.run_pure, beqS], fun em x w => by cases em <;> kernel_rfl, fun x w => by simp [Instr.keyThatStays, keyS, Instr.sameBits, beqS], .inr fun x y => by
  simp [Instr.sameNow, keyS, beqS], fun x y h => by simpa [keyS] using h⟩
theorem makeMap_n (M T E : TypeId) (hM : Tryd.prog.underlying M = some (.map T E)) (n : Int) (w : World) : (Instr.makeMap M (some (.int .i64 n))).run Tryd.prog w = .ok (.map (some w.heap.size)) (w.alloc (.map #[] 0)) := by
  simp [Instr.makeMap, run_underlying hM, Result.andThen, asInt]
  first | rfl | done
end Go.Proofs.YtkifgffhoenaoaaDoor

namespace Go.Proofs.YtkifgffhoenaoaaDoor
open Go.RowKit
set_option linter.unusedSimpArgs false
set_option linter.unusedVariables false
set_option maxRecDepth 100000

def encB (x : Int) : List Value := [.int .u8 x]
abbrev eBytes (l : List Int) (v : Value) : Ent := eOwn encB 1 5 l v
theorem byteInfo : (Tryd.prog.info? 5).map (fun i => (i.zero, i.size, i.bytes)) = some (some (.int .u8 0), 1, 1) := by kernel_rfl
theorem encB_one (y : Int) : ∀ u ∈ encB y, u.oneCell' = true := fun u hu => by simp [encB] at hu; subst hu; rfl
/-- A number in two bytes. -/
def two (x : Int) : List Int := [x / 256, x % 256]
def GivesP (n0 : Nat) (w0 : World) (es : List Ent) (i : Nat) (l : List Int) (e : Ending) (w' : World) : Prop := ∃ A c, e = .returned (.slice A l.length c) ∧ Hid (Sep n0 w0 (es.set i (eBytes l (.slice A l.length c))) w')
set_option maxHeartbeats 1000000 in
theorem appendInt_c (n0 : Nat) (w0 : World) (es : List Ent) (i : Nat) (l : List Int) (v : Value) (x : Int) (w : World) (S : Sep n0 w0 es w) (hi : es[i]? = some (eBytes l v)) (h0 : 0 ≤ x) (h1 : x < 65536) (hl : l.length ≤ 1000000) :
    Calls Tryd.prog 112 #[v, .int .i64 x] w (GivesP n0 w0 es i (l ++ two x)) := by
  have HS := Lib.hid S
  clear S
  go_enter Tryd.func112, Tryd.ntmps112
  obtain ⟨AV, cV, hv⟩ := Own.form (HS.out.get i hi)
  go_wp2_with (at_builtin; refine wpList_pushNS rfl _ _ 62 rfl (HS.out.alloc 5 [.int .u8 (x / 256), .int .u8 (x % 256)]) (i + 1) hi Tryd.underlying62 _ 1 byteInfo rfl (by decide) rfl (two x) _ 2 rfl (fun _ => rfl) (one_cell _ _ [_, _] _ rfl) encB_one ?_ (by decide) ?_)
  · simp only [two, List.length_cons, List.length_nil]; omega
  · intro A' c' w2 S2 _
    have S3 := Lib.hid S2.drop1
    clear S2
    go_wp2_with fail
    go_ret
    exact ⟨A', c', by rw [List.length_append]; rfl, by rw [List.length_append]; exact S3.out⟩

/-- What refine gives. -/
def GivesF (n : Nat) (l : List ByteArray) (w : World) (e : Ending) (w' : World) : Prop :=
  ∃ g, e = .returned (.tuple #[.slice (some ⟨g, 0, none⟩) n n, .int .i64 (cntK l)]) ∧ Hid (Sep w.heap.size w [eBlk g 3 ((numK l).map (Value.int .i64))] w')
def idxF {κ : Type} [DecidableEq κ] (D : List κ) (y : κ) : Option Int := if y ∈ D then some ((idxK D y : Nat) : Int) else none
theorem idxF_snoc {κ : Type} [DecidableEq κ] {l : List κ} {k : κ} (h : ¬ k ∈ seenK [] l) (y : κ) : idxF (seenK [] (l ++ [k])) y = if y = k then some (cntK l : Int) else idxF (seenK [] l) y := by
  unfold idxF
  by_cases e : y = k
  · subst e
    rw [if_pos rfl, if_pos ((mem_seenK _ _ _).2 (.inr (by simp))), idxK_fresh h]
  · rw [if_neg e]
    rw [seenK_snoc, if_neg h]
    by_cases m : y ∈ seenK [] l
    · rw [if_pos m, if_pos (List.mem_append_left _ m), idxK_app m]
    · rw [if_neg m, if_neg (by simp [m, e])]
theorem idxF_snoc_old {κ : Type} [DecidableEq κ] {l : List κ} {k : κ} (h : k ∈ seenK [] l) : seenK [] (l ++ [k]) = seenK [] l := by rw [seenK_snoc, if_pos h]
theorem cnt_snoc {κ : Type} [DecidableEq κ] (l : List κ) (k : κ) : cntK (l ++ [k]) = if k ∈ seenK [] l then cntK l else cntK l + 1 := by
  unfold cntK; rw [seenK_snoc]; split <;> simp
/-- Numbers so far, then zeros. -/
def nums (n : Nat) (l : List ByteArray) : List Value := (numK l).map (Value.int .i64) ++ List.replicate (n - l.length) (.int .i64 0)
theorem nums_set {n : Nat} {l : List ByteArray} {k : ByteArray} (h : l.length < n) : (nums n l).set l.length (.int .i64 ((idxK (seenK [] (l ++ [k])) k : Nat) : Int)) = nums n (l ++ [k]) := by
  unfold nums
  rw [numK_snoc, List.map_append, List.set_append_right _ _ (by simp [numK_len]), List.length_map, numK_len, Nat.sub_self, List.length_append, List.length_singleton]
  obtain ⟨d, hd⟩ : ∃ d, n - l.length = d + 1 := ⟨n - l.length - 1, by omega⟩
  rw [hd, List.replicate_succ, List.set_cons_zero, show n - (l.length + 1) = d by omega]
  simp
theorem nums_len {n : Nat} {l : List ByteArray} (h : l.length ≤ n) : (nums n l).length = n := by simp [nums, numK_len]; omega
set_option maxHeartbeats 2000000 in
theorem refine_c (n : Nat) (g : Nat) (lb : Array Value) (eg : ∀ args w, (callFunc g args).run Tryd.prog w = .ok (.enter g args) w) (key : Nat → ByteArray) (w : World) (hn : n ≤ 4096)
    (hk : ∀ (V : World) (s : Nat), s < n → Below w.heap.size w V → Calls Tryd.prog g (#[.int .i64 (s : Int)] ++ lb) V (Ret (.string (key s)) V)) :
    Calls Tryd.prog 109 #[.int .i64 (n : Int), .func (.func g) #[] lb] w (GivesF n ((List.range n).map key) w) := by
  have HK := Lib.hid hk
  clear hk
  have hmk := make_run (P := Tryd.prog) 32 3 (.int .i64 0) 8 Tryd.underlying32 intInfo rfl n (by omega) (by omega)
  have hmm := fun w => makeMap_n 126 _ _ Tryd.underlying126 (n : Int) w
  obtain ⟨L, hL⟩ : ∃ L, L = (List.range n).map key := ⟨_, rfl⟩
  have HL : Hid (L.length = n ∧ ∀ s, s < n → L[s]? = some (key s)) := by subst hL; exact ⟨by simp, fun s hs => by simp [hs]⟩
  rw [← hL]
  clear hL
  go_enter Tryd.func109, Tryd.ntmps109
  go_wp2_with fail
  refine wp_world (fun W => Sep w.heap.size w [eBlk (w.heap.size + 1) 3 (nums n (L.take 0)), eMapC keyS veI w.heap.size (idxF (seenK [] (L.take 0))) (cntK (L.take 0))] W) ?_ fun W S0 => ?_
  · exact ((Sep.here w).allocMapC keyS veI rfl).alloc' _ _ (by simp [nums, numK]) (by simp)
  clear hmk hmm
  go_loopw [17] (fun i wr => ∃ k : Nat, i = .int .i64 k ∧ k ≤ n ∧ Hid (Sep w.heap.size w [eBlk (w.heap.size + 1) 3 (nums n (L.take k)), eMapC keyS veI w.heap.size (idxF (seenK [] (L.take k))) (cntK (L.take k))] wr)) (fun i _ => n - (intOf i).toNat)
  case atStart => exact ⟨0, rfl, Nat.zero_le _, S0⟩
  case round =>
    clear S0
    obtain ⟨k, rfl, hk, S⟩ := hrel
    by_cases hlt : k < n
    · have HC := Lib.hid (HK.out wr k hlt S.out.below)
      obtain ⟨y, hy⟩ : ∃ y, y = key k := ⟨_, rfl⟩
      rw [← hy] at HC
      have HT : Hid (L.take (k + 1) = L.take k ++ [y] ∧ (L.take k).length = k) := ⟨by rw [List.take_add_one, HL.out.2 k hlt, hy]; rfl, by rw [List.length_take, HL.out.1]; omega⟩
      clear hy
      go_wp2_with fail
      refine HC.out.mono ?_
      rintro e w2 ⟨rfl, hb⟩
      have S2 := Lib.hid (S.out.next hb)
      clear hb S HC
      have hlk := (MapG.look okS Tryd.underlying126 zeroI (MapC.g (S2.out.get 1 rfl)) y).1
      by_cases hm : y ∈ seenK [] (L.take k)
      · obtain ⟨j, hj⟩ : ∃ j, j = idxK (seenK [] (L.take k)) y := ⟨_, rfl⟩
        have e1 : idxF (seenK [] (L.take k)) y = some (j : Int) := by rw [idxF, if_pos hm, hj]
        rw [e1] at hlk
        simp only [Option.getD_some, Option.isSome_some, keyS, veI] at hlk
        have S3 : Hid (Sep w.heap.size w [eBlk (w.heap.size + 1) 3 (nums n (L.take (k + 1))), eMapC keyS veI w.heap.size (idxF (seenK [] (L.take (k + 1)))) (cntK (L.take (k + 1)))] (w2.setCell ⟨w.heap.size + 1, k, none⟩ (.int .i64 (j : Int)))) := by
          have h := S2.out.set 0 rfl k (.int .i64 (j : Int))
          have q := nums_set (n := n) (l := L.take k) (k := y) (by rw [HT.out.2]; exact hlt)
          rw [idxK_old hm, ← hj, HT.out.2] at q
          rw [q, ← HT.out.1] at h
          rw [HT.out.1, idxF_snoc_old hm, cnt_snoc, if_pos hm, ← HT.out.1]
          exact h
        have c1 := BlkAt.cell (S2.out.get 0 rfl) k
        rw [List.getElem?_eq_getElem (show k < (nums n (L.take k)).length by rw [nums_len (by rw [HT.out.2]; exact hk)]; exact hlt)] at c1
        have f1 := BlkAt.free (S2.out.get 0 rfl) k
        clear S2 hj hm e1
        go_wp2_with fail
        go_roundw
        case rel => exact ⟨k + 1, by go_num, by omega, S3.out⟩
        case measure => simp [intOf]; omega
      · have e1 : idxF (seenK [] (L.take k)) y = none := by rw [idxF, if_neg hm]
        rw [e1] at hlk
        simp only [Option.getD_none, Option.isSome_none, keyS, veI] at hlk
        have hln := MapC.len Tryd.underlying126 (S2.out.get 1 rfl) 3
        have E1 := Lib.hid e1
        have HM := Lib.hid hm
        clear e1 hm
        go_wp2_with (at_mapUpdate; refine wpList_mapUpdateC rfl (.tmp 33) (.tmp 34) (.tmp 35) 126 9 3 rfl S2.out 1 rfl okS Tryd.underlying126 y ((cntK (L.take k) : Nat) : Int) E1.out rfl rfl rfl ?_)
        intro w3 S3 _
        have S4 : Hid (Sep w.heap.size w [eBlk (w.heap.size + 1) 3 (nums n (L.take k)), eMapC keyS veI w.heap.size (idxF (seenK [] (L.take (k + 1)))) (cntK (L.take (k + 1)))] w3) := by
          rw [HT.out.1, cnt_snoc, if_neg HM.out]
          have e : idxF (seenK [] (L.take k ++ [y])) = fun u => if u = y then some ((cntK (L.take k) : Nat) : Int) else idxF (seenK [] (L.take k)) u := funext fun u => idxF_snoc HM.out u
          rw [e]
          exact S3
        have S5 : Hid (Sep w.heap.size w [eBlk (w.heap.size + 1) 3 (nums n (L.take (k + 1))), eMapC keyS veI w.heap.size (idxF (seenK [] (L.take (k + 1)))) (cntK (L.take (k + 1)))] (w3.setCell ⟨w.heap.size + 1, k, none⟩ (.int .i64 ((cntK (L.take k) : Nat) : Int)))) := by
          have h := S4.out.set 0 rfl k (.int .i64 ((cntK (L.take k) : Nat) : Int))
          have q := nums_set (n := n) (l := L.take k) (k := y) (by rw [HT.out.2]; exact hlt)
          rw [idxK_fresh HM.out, HT.out.2, ← HT.out.1] at q
          rw [q] at h
          exact h
        have c1 := BlkAt.cell (S4.out.get 0 rfl) k
        rw [List.getElem?_eq_getElem (show k < (nums n (L.take k)).length by rw [nums_len (by rw [HT.out.2]; exact hk)]; exact hlt)] at c1
        have f1 := BlkAt.free (S4.out.get 0 rfl) k
        clear S2 S3 S4 hlk hln E1 HM
        go_wp2_with fail
        go_roundw
        case rel => exact ⟨k + 1, by go_num, by omega, S5.out⟩
        case measure => simp [intOf]; omega
    · obtain rfl : k = n := by omega
      have hln := MapC.len Tryd.underlying126 (S.out.get 1 rfl) 3
      have hT : L.take k = L := List.take_of_length_le (by rw [HL.out.1]; exact Nat.le_refl _)
      rw [hT] at S hln
      clear hT
      go_wp2_with fail
      go_ret2
      refine ⟨_, rfl, ?_⟩
      have h := S.out.first
      have e : nums k L = (numK L).map (Value.int .i64) := by simp [nums, HL.out.1]
      rw [e] at h
      exact h
end Go.Proofs.YtkifgffhoenaoaaDoor

