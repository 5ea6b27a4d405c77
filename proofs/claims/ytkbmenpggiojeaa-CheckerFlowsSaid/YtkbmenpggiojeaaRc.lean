/-
  Data in memory, nested: where they lie, what keeps them, lists of the call's own whose elements hold lists.
-/
import Derived.Test.YtkbmenpggiojeaaMo
import Derived.Test.YtkbmenpggiojeaaRa
namespace Go.Proofs.Ytkbmenpggiojeaa
open Go.RowKit
set_option linter.unusedSimpArgs false
set_option linter.unusedVariables false

theorem BlkAt.at1 {w : World} {g : Nat} {T : TypeId} {cs : List Value} (h : BlkAt w g T cs) (i : Nat) (u : Value) (hi : cs[i]? = some u) : w.cell? ⟨g, i, none⟩ = some u := (h.cell i).trans hi

/-- How data lie in memory; F holds of the blocks in which they may lie. -/
abbrev Rep (α : Type) := (Nat → Prop) → World → α → List Value → Prop
structure RepOk {α : Type} (R : Rep α) : Prop where
  keep : ∀ {F : Nat → Prop} {w w' : World} {x : α} {vs : List Value}, w.heap.size ≤ w'.heap.size → (∀ b, F b → b < w.heap.size → w'.heap[b]? = w.heap[b]?) → R F w x vs → R F w' x vs
  mono : ∀ {F G : Nat → Prop} {w : World} {x : α} {vs : List Value}, (∀ b, F b → b < w.heap.size → G b) → R F w x vs → R G w x vs
/-- The reading, wherever it lies. -/
def Rd {α : Type} (R : Rep α) : Reading α := fun w x vs => R (fun _ => True) w x vs
theorem RepOk.rd {α : Type} {R : Rep α} (h : RepOk R) {F : Nat → Prop} {w : World} {x : α} {vs : List Value} (hr : R F w x vs) : Rd R w x vs := h.mono (fun _ _ _ => trivial) hr
theorem RepOk.stays {α : Type} {R : Rep α} (h : RepOk R) : Stays (Rd R) := fun _ _ _ _ hb hr => h.keep hb.size (fun b _ hlt => hb.block b hlt) hr
theorem RepOk.below {α : Type} {R : Rep α} (h : RepOk R) {F : Nat → Prop} {w w' : World} {x : α} {vs : List Value} (hr : R F w x vs) (hb : Below w.heap.size w w') : R F w' x vs := h.keep hb.size (fun b _ hlt => hb.block b hlt) hr
theorem RepOk.grown {α : Type} {R : Rep α} (h : RepOk R) {F : Nat → Prop} {w w' : World} {row : Option Nat} {x : α} {vs : List Value} (hr : R F w x vs) (hg : w.grownBy w' row) (hF : ∀ b, F b → some b ≠ row) : R F w' x vs :=
  h.keep hg.size (fun b hb hlt => hg.block b hlt (hF b hb)) hr
theorem RepOk.setCell {α : Type} {R : Rep α} (h : RepOk R) {F : Nat → Prop} {w : World} {p : Addr} {u : Value} {x : α} {vs : List Value} (hr : R F w x vs) (hF : ∀ b, F b → b ≠ p.block) : R F (w.setCell p u) x vs :=
  h.keep (by simp) (fun b hb hlt => Below.heap_setCell w p u b (hF b hb)) hr

/-- Data that are their own cells. -/
def PlR {α : Type} (enc : α → List Value) : Rep α := fun _ _ x vs => vs = enc x
theorem PlR.ok {α : Type} (enc : α → List Value) : RepOk (PlR enc) := ⟨fun _ _ h => h, fun _ h => h⟩
abbrev IntR : Rep Int := PlR encI
/-- A slice. -/
def SlR {α : Type} (R : Rep α) (k : Nat) : Rep (List α) := fun F w l vs => ∃ (A : Option Addr) (c : Nat), vs = [.slice A l.length c] ∧ l.length ≤ 140737488355328 ∧
  (l ≠ [] → ∃ b off, A = some ⟨b, off, none⟩ ∧ F b ∧ b < w.heap.size ∧ ∀ (i : Nat) (x : α), l[i]? = some x → ∃ us : List Value, us.length = k ∧ R F w x us ∧ ∀ (j : Nat) (u : Value), us[j]? = some u → w.cell? ⟨b, off + i * k + j, none⟩ = some u)
theorem SlR.ok {α : Type} {R : Rep α} (h : RepOk R) (k : Nat) : RepOk (SlR R k) := by
  constructor
  · rintro F w w' l vs hz hk ⟨A, c, e, hl, hr⟩
    refine ⟨A, c, e, hl, fun hne => ?_⟩
    obtain ⟨b, off, hA, hF, hlt, hc⟩ := hr hne
    refine ⟨b, off, hA, hF, by omega, fun i x hx => ?_⟩
    obtain ⟨us, h1, h2, h3⟩ := hc i x hx
    exact ⟨us, h1, h.keep hz hk h2, fun j u hj => (World.cell?_of_block (a := ⟨b, _, none⟩) (hk b hF hlt)).trans (h3 j u hj)⟩
  · rintro F G w l vs hk ⟨A, c, e, hl, hr⟩
    refine ⟨A, c, e, hl, fun hne => ?_⟩
    obtain ⟨b, off, hA, hF, hlt, hc⟩ := hr hne
    refine ⟨b, off, hA, hk b hF hlt, hlt, fun i x hx => ?_⟩
    obtain ⟨us, h1, h2, h3⟩ := hc i x hx
    exact ⟨us, h1, h.mono hk h2, h3⟩
theorem SlR.nil {α : Type} {R : Rep α} {k : Nat} {F : Nat → Prop} {w : World} : SlR R k F w [] [.slice none 0 0] := ⟨none, 0, rfl, by simp, fun h => absurd rfl h⟩
theorem SlR.at_ {α : Type} {R : Rep α} {k : Nat} {F : Nat → Prop} {w : World} {l : List α} {A : Option Addr} {n c : Nat} (hR : RepOk R) (h : SlR R k F w l [.slice A n c]) : n = l.length ∧ l.length ≤ 140737488355328 ∧ SlAt (Rd R) k w A l := by
  obtain ⟨A', c', e, hl, hr⟩ := h
  cases e
  refine ⟨rfl, hl, fun hne => ?_⟩
  obtain ⟨b, off, hA, _, hlt, hc⟩ := hr hne
  refine ⟨b, off, hA, hlt, fun i x hx => ?_⟩
  obtain ⟨us, h1, h2, h3⟩ := hc i x hx
  exact ⟨us, h1, hR.rd h2, h3⟩
theorem SlR.form {α : Type} {R : Rep α} {k : Nat} {F : Nat → Prop} {w : World} {l : List α} {vs : List Value} (h : SlR R k F w l vs) : ∃ A c, vs = [.slice A l.length c] := by
  obtain ⟨A, c, e, _⟩ := h
  exact ⟨A, c, e⟩
/-- Out of a reading. -/
theorem SlR.of_at {α : Type} {R : Rep α} {k : Nat} {w : World} {l : List α} {A : Option Addr} {c : Nat} (h : SlAt (Rd R) k w A l) (hl : l.length ≤ 140737488355328) : SlR R k (fun _ => True) w l [.slice A l.length c] := by
  refine ⟨A, c, rfl, hl, fun hne => ?_⟩
  obtain ⟨b, off, hA, hlt, hc⟩ := h hne
  exact ⟨b, off, hA, trivial, hlt, fun i x hx => by
    obtain ⟨us, h1, h2, h3⟩ := hc i x hx
    exact ⟨us, h1, h2, h3⟩⟩
theorem SlAt.ints {w : World} {A : Option Addr} {l : List Int} (h : SlAt (Rd IntR) 1 w A l) : IntsAt w A l := h

theorem flat_at {k : Nat} : ∀ (raw : List (List Value)) (h : ∀ x, x ∈ raw → x.length = k) (i j : Nat) (x : List Value), raw[i]? = some x → j < k → raw.flatten[i * k + j]? = x[j]? := by
  intro raw
  induction raw with
  | nil => intro h i j x hx; simp at hx
  | cons a r ih =>
    intro h i j x hx hj
    have ha : a.length = k := h a (by simp)
    cases i with
    | zero =>
      simp at hx; subst hx
      rw [List.flatten_cons, Nat.zero_mul, Nat.zero_add, List.getElem?_append_left (by omega)]
    | succ i =>
      simp at hx
      rw [List.flatten_cons, List.getElem?_append_right (by rw [ha, Nat.succ_mul]; omega), ha, show (i + 1) * k + j - k = i * k + j from by rw [Nat.succ_mul]; omega]
      exact ih (fun x hx => h x (by simp [hx])) i j x hx hj
theorem flat_size {k : Nat} (raw : List (List Value)) (h : ∀ x, x ∈ raw → x.length = k) : raw.flatten.length = raw.length * k := by
  induction raw with
  | nil => simp
  | cons a r ih => rw [List.flatten_cons, List.length_append, h a (by simp), ih (fun x hx => h x (by simp [hx])), List.length_cons, Nat.succ_mul]; omega

/-- A list of the call's own, in a row beyond block B; its elements lie beyond B too, in none of the blocks X. -/
structure OwnR {α : Type} (R : Rep α) (k T B : Nat) (X : Nat → Prop) (l : List α) (v : Value) (w : World) : Prop where
  raw : ∃ raw : List (List Value), raw.length = l.length ∧ w.ownsRow B T k v l.length raw.flatten ∧ (∀ x, x ∈ raw → x.length = k) ∧ ∀ (i : Nat) (x : α) (vs : List Value), l[i]? = some x → raw[i]? = some vs → R (fun b => B ≤ b ∧ ¬ X b ∧ some b ≠ v.ownBlock) w x vs
  far : ∀ b, X b → some b ≠ v.ownBlock
section
variable {α : Type} {R : Rep α} {k T B : Nat} {X : Nat → Prop} {l : List α} {v : Value} {w w' : World}
theorem OwnR.nil (w : World) : OwnR R k T B X [] (.slice none 0 0) w := ⟨⟨[], rfl, World.ownsRow_nil .., fun x h => absurd h (by simp), fun i x vs h => absurd h (by simp)⟩, fun b _ => by simp [Value.ownBlock]⟩
theorem OwnR.form (h : OwnR R k T B X l v w) : ∃ A c, v = .slice A l.length c := by
  obtain ⟨raw, _, h2, _⟩ := h.raw
  exact own_form h2
theorem OwnR.lt (h : OwnR R k T B X l v w) : ∀ j, v.ownBlock = some j → B ≤ j ∧ j < w.heap.size := by
  obtain ⟨raw, _, h2, _⟩ := h.raw
  exact World.ownsRow.lt h2
/-- Whatever leaves the blocks from B on but for X leaves it. -/
theorem OwnR.keep (hR : RepOk R) (h : OwnR R k T B X l v w) (hz : w.heap.size ≤ w'.heap.size) (hk : ∀ b, B ≤ b → ¬ X b → b < w.heap.size → w'.heap[b]? = w.heap[b]?) : OwnR R k T B X l v w' := by
  obtain ⟨⟨raw, h1, h2, h3, h4⟩, far⟩ := h
  refine ⟨⟨raw, h1, ⟨h2.1, ?_⟩, h3, fun i x vs hx hv => hR.keep hz (fun b hb hlt => hk b hb.1 hb.2.1 hlt) (h4 i x vs hx hv)⟩, far⟩
  rcases h2.2 with h | ⟨g, cap, cur, r1, r2, r3, r4⟩
  · exact .inl h
  · subst r1
    exact .inr ⟨g, cap, cur, rfl, r2, (hk g r2 (fun hx => far g hx rfl) (Array.getElem?_eq_some_iff.1 r3).1).trans r3, r4⟩
theorem OwnR.below (hR : RepOk R) (h : OwnR R k T B X l v w) (hb : Below w.heap.size w w') : OwnR R k T B X l v w' := h.keep hR hb.size fun b _ _ hlt => hb.block b hlt
theorem OwnR.alloc (hR : RepOk R) (h : OwnR R k T B X l v w) (o : Obj) : OwnR R k T B X l v (w.alloc o) := h.below hR (Below.new w o)
theorem OwnR.drew (hR : RepOk R) (h : OwnR R k T B X l v w) : OwnR R k T B X l v w.drew := h.below hR (Below.refl _ _).drew
theorem OwnR.grown {row : Option Nat} (hR : RepOk R) (h : OwnR R k T B X l v w) (hg : w.grownBy w' row) (hr : ∀ j, row = some j → j < B ∨ X j) : OwnR R k T B X l v w' :=
  h.keep hR hg.size fun b hB hX hlt => hg.block b hlt (fun e => (hr b e.symm).elim (fun h => absurd hB (by omega)) hX)
theorem OwnR.setCell (hR : RepOk R) (h : OwnR R k T B X l v w) {p : Addr} {u : Value} (hp : p.block < B ∨ X p.block) : OwnR R k T B X l v (w.setCell p u) :=
  h.keep hR (by simp) fun b hB hX _ => Below.heap_setCell w p u b (fun e => hp.elim (fun h => by omega) (fun h => hX (e ▸ h)))
/-- Other blocks left out: such as were left out, or are new. -/
theorem OwnR.but {X' : Nat → Prop} (hR : RepOk R) (h : OwnR R k T B X l v w) (hx : ∀ b, X' b → X b ∨ w.heap.size ≤ b ∨ b < B) : OwnR R k T B X' l v w := by
  have hlt := h.lt
  obtain ⟨⟨raw, h1, h2, h3, h4⟩, far⟩ := h
  refine ⟨⟨raw, h1, h2, h3, fun i x vs hx' hv => hR.mono (fun b hb hl => ⟨hb.1, fun hX => ?_, hb.2.2⟩) (h4 i x vs hx' hv)⟩, fun b hb e => ?_⟩
  · rcases hx b hX with h | h | h
    · exact hb.2.1 h
    · omega
    · have := hb.1; omega
  · rcases hx b hb with h | h | h
    · exact far b h e
    · have := (hlt b e.symm).2; omega
    · have := (hlt b e.symm).1; omega
theorem OwnR.base {B' : Nat} (hR : RepOk R) (h : OwnR R k T B X l v w) (hB : B' ≤ B) : OwnR R k T B' X l v w := by
  obtain ⟨⟨raw, h1, h2, h3, h4⟩, far⟩ := h
  refine ⟨⟨raw, h1, ⟨h2.1, ?_⟩, h3, fun i x vs hx hv => hR.mono (fun b hb _ => ⟨Nat.le_trans hB hb.1, hb.2⟩) (h4 i x vs hx hv)⟩, far⟩
  rcases h2.2 with h | ⟨g, cap, cur, r1, r2, r3⟩
  · exact .inl h
  · exact .inr ⟨g, cap, cur, r1, Nat.le_trans hB r2, r3⟩
/-- No block. -/
def NoBlk : Nat → Prop := fun _ => False
/-- The own block of a list, and others. -/
def Beside (X : Nat → Prop) (v : Value) : Nat → Prop := fun b => X b ∨ some b = v.ownBlock
theorem Beside.lt {v : Value} {n : Nat} (h : ∀ j, v.ownBlock = some j → j < n) : ∀ b, Beside NoBlk v b → b < n := fun b hb => hb.elim False.elim fun e => h b e.symm
/-- A list beside another one that grew: the other's own block is left out again. -/
theorem OwnR.beside {α : Type} {R : Rep α} {k T B : Nat} {X : Nat → Prop} {l : List α} {v v1 v1' : Value} {w w' : World} (hR : RepOk R) (h : OwnR R k T B (Beside X v1) l v w) (hg : w.grownBy w' v1.ownBlock) (hat : v1'.ownBlock = v1.ownBlock ∨ v1'.ownBlock = some w.heap.size) :
    OwnR R k T B (Beside X v1') l v w' := by
  have h1 : OwnR R k T B (Beside (Beside X v1) v1') l v w := h.but hR fun b hb => by
    rcases hb with hb | hb
    · exact .inl hb
    · rcases hat with e | e
      · exact .inl (.inr (hb.trans e))
      · rw [e] at hb; cases hb; exact .inr (.inl (Nat.le_refl _))
  refine (h1.grown hR hg fun j hj => .inr (.inl (.inr hj.symm))).but hR fun b hb => ?_
  rcases hb with hb | hb
  · exact .inl (.inl (.inl hb))
  · exact .inl (.inr hb)
/-- It reads, and lies in blocks from B on, in none of X. -/
theorem OwnR.rep (hR : RepOk R) (h : OwnR R k T B X l v w) (hk : 0 < k) (hl : l.length ≤ 140737488355328) : SlR R k (fun b => B ≤ b ∧ ¬ X b) w l [v] := by
  obtain ⟨⟨raw, h1, h2, h3, h4⟩, far⟩ := h
  rcases h2.2 with ⟨rfl, h0⟩ | ⟨g, cap, cur, rfl, r1, r2, r3⟩
  · have : l = [] := List.eq_nil_of_length_eq_zero h0
    subst this
    exact SlR.nil
  · refine ⟨some ⟨g, 0, none⟩, cap, rfl, hl, fun _ => ⟨g, 0, rfl, ⟨r1, fun hX => far g hX rfl⟩, (Array.getElem?_eq_some_iff.1 r2).1, fun i x hx => ?_⟩⟩
    have hi := (List.getElem?_eq_some_iff.1 hx).1
    obtain ⟨vs, hv⟩ : ∃ vs, raw[i]? = some vs := ⟨_, List.getElem?_eq_getElem (by omega)⟩
    have hvk := h3 vs (List.mem_of_getElem? hv)
    refine ⟨vs, hvk, hR.mono (fun b hb _ => ⟨hb.1, hb.2.1⟩) (h4 i x vs hx hv), fun j u hj => ?_⟩
    have hj' : j < k := by have := (List.getElem?_eq_some_iff.1 hj).1; omega
    have hlt : i * k + j < l.length * k := by
      have : (i + 1) * k ≤ l.length * k := Nat.mul_le_mul_right k hi
      rw [Nat.succ_mul] at this; omega
    rw [Nat.zero_add, h2.cellAt _ hlt, flat_at raw h3 i j vs hv hj', hj]
end
theorem OwnR.at_ {α : Type} {R : Rep α} {k T B : Nat} {X : Nat → Prop} {l : List α} {w : World} {A : Option Addr} {c : Nat} (hR : RepOk R) (h : OwnR R k T B X l (.slice A l.length c) w) (hk : 0 < k) (hl : l.length ≤ 140737488355328) : SlAt (Rd R) k w A l := (SlR.at_ hR (h.rep hR hk hl)).2.2

/-- 'append' of one element that has just been laid, onto a list of the call's own. -/
theorem wpList_pushR {P : Program} {α : Type} {R : Rep α} {k T B : Nat} {X : Nat → Prop} {l : List α} {v : Value} {w : World} {ops : Array Oper} {rest : List Oper} {o : Oper} {a : Act} {Q : Exit → Act → World → Prop} (hR : RepOk R) (hgd : o.guard = none) (s x : Operand) (t : TypeId)
    (ho : o.op = .call { callee := .builtin .append, args := #[s, x], argTypes := #[t, t] }) (hown : OwnR R k T B X l v w)
    (ht : P.underlying t = some (.slice T)) (z : Value) (bytes : Nat) (hi : (P.info? T).map (fun i => (i.zero, i.size, i.bytes)) = some (some z, k, bytes))
    (hzs : z.cells.size = k) (hk : 0 < k) (hs : a.eval s = v) (y : α) (vs : List Value) (g : Nat) (hx : a.eval x = .slice (some ⟨g, 0, none⟩) 1 1) (hy : vs.length = k) (hyr : R (fun b => B ≤ b ∧ ¬ X b ∧ some b ≠ v.ownBlock) w y vs) (hc : ∀ j u, vs[j]? = some u → w.cell? ⟨g, j, none⟩ = some u) (h1 : ∀ u ∈ vs, u.oneCell' = true)
    (hl : l.length ≤ 1048576) (hby : bytes ≤ 4096) (hB : B ≤ w.heap.size) (hXs : ∀ b, X b → b < w.heap.size)
    (h : ∀ A' c' w', OwnR R k T B X (l ++ [y]) (.slice A' (l.length + 1) c') w' → w.grownBy w' v.ownBlock → ((Value.slice A' (l.length + 1) c').ownBlock = v.ownBlock ∨ (Value.slice A' (l.length + 1) c').ownBlock = some w.heap.size) → wpList P ops Q rest (a.put o.dst (.slice A' (l.length + 1) c')) w') :
    wpList P ops Q (o :: rest) a w := by
  obtain ⟨i0, hi0, hz, hsize, hb⟩ := info_parts hi
  have hlt := hown.lt
  obtain ⟨⟨raw, r1, r2, r3, r4⟩, far⟩ := hown
  refine wpList_append_own_at w hgd s x t ho B T i0 z k bytes ht hi0 hz hsize hb hzs hk v l.length raw.flatten hs r2 ⟨g, 0, none⟩ 1 1 vs hx (by omega) (fun j u hj => ?_) h1 (by simp only [maxLen]; omega) (by have := Nat.mul_le_mul (show l.length + 1 ≤ 1048577 by omega) hby; omega) hB ?_
  · have := hc j u hj
    unfold Addr.add
    split
    · rename_i h0; subst h0; exact this
    · simpa using this
  · intro v' w' ho' hg _ hat
    obtain ⟨A', c', rfl⟩ := own_form ho'
    have keepR : ∀ (z : α) (us : List Value), R (fun b => B ≤ b ∧ ¬ X b ∧ some b ≠ v.ownBlock) w z us → R (fun b => B ≤ b ∧ ¬ X b ∧ some b ≠ (Value.slice A' (l.length + 1) c').ownBlock) w' z us := fun z us hz => by
      have h1 : R (fun b => (B ≤ b ∧ ¬ X b ∧ some b ≠ v.ownBlock) ∧ b < w.heap.size) w z us := hR.mono (fun b hb hl => ⟨hb, hl⟩) hz
      refine hR.mono (fun b hb _ => ⟨hb.1.1, hb.1.2.1, fun e => ?_⟩) (hR.keep hg.size (fun b hb hl => hg.block b hl (fun e => hb.1.2.2 e)) h1)
      rcases hat with e' | e'
      · exact hb.1.2.2 (e.trans e')
      · rw [e'] at e; cases e; omega
    refine h A' c' w' ⟨⟨raw ++ [vs], by simp [r1], by rw [List.length_append, List.flatten_append]; simpa using ho', fun x hx => ?_, fun i x us hx hu => ?_⟩, fun b hb e => ?_⟩ hg hat
    · rcases List.mem_append.1 hx with hx | hx
      · exact r3 x hx
      · simp at hx; subst hx; exact hy
    · by_cases hi : i < l.length
      · rw [List.getElem?_append_left hi] at hx
        rw [List.getElem?_append_left (by omega)] at hu
        exact keepR x us (r4 i x us hx hu)
      · have hi2 : i = l.length := by
          have := (List.getElem?_eq_some_iff.1 hx).1
          simp at this; omega
        subst hi2
        rw [List.getElem?_append_right (by omega)] at hx hu
        simp [r1] at hx hu
        subst hx; subst hu
        exact keepR _ _ hyr
    · rcases hat with e' | e'
      · exact far b hb (e.trans e')
      · rw [e'] at e; cases e; have := hXs _ hb; omega
end Go.Proofs.Ytkbmenpggiojeaa
