/-
  minimal.marks, reach.flags: a flag for each state.
  Plain: words in order: shorter ones first, then by their events.
  Plain: the minimal automaton of a language is one alone.
  Plain: states that are numbered as their edges find them have least words that rise.
  Plain: an automaton that is built breadth first out of a system: its states are numbered as they are found, one for each key.
  Plain: what the functions of layer 4 compute, step by step.
-/
import Derived.Test.YtkifgffhoenaoaaDoorBase02
import Derived.Test.YtkifgffhoenaoaaDoorBase01
namespace Go.Proofs.YtkifgffhoenaoaaDoor
open Go.RowKit
set_option linter.unusedSimpArgs false
set_option linter.unusedVariables false
set_option maxRecDepth 100000

theorem boolInfo : (Tryd.prog.info? 4).map (fun i => (i.zero, i.size, i.bytes)) = some (some (.bool false), 1, 1) := by kernel_rfl
/-- Flags. -/
def mkB (n : Nat) (p : Nat → Bool) : List Value := (List.range n).map fun s => .bool (p s)
theorem mkB_get {n : Nat} {p : Nat → Bool} {s : Nat} (h : s < n) : (mkB n p)[s]? = some (.bool (p s)) := by simp [mkB, h]
theorem mkB_rep (n : Nat) : List.replicate n (Value.bool false) = mkB n fun _ => false := by
  apply List.ext_getElem?
  intro i
  by_cases h : i < n
  · rw [mkB_get h, List.getElem?_replicate, if_pos h]
  · simp [mkB, h]
theorem mkB_set {n : Nat} {p : Nat → Bool} (s : Nat) : (mkB n p).set s (.bool true) = mkB n fun t => decide (t = s) || p t := by
  apply List.ext_getElem?
  intro i
  rw [List.getElem?_set]
  by_cases h : i < n
  · rw [mkB_get (p := fun t => decide (t = s) || p t) h]
    by_cases e : s = i
    · subst e
      rw [if_pos rfl, if_pos (by simpa [mkB] using h), decide_eq_true rfl, Bool.true_or]
    · rw [if_neg e, mkB_get h]
      simp [Ne.symm e]
  · have h1 : ∀ q : Nat → Bool, (mkB n q)[i]? = none := fun q => by simp [mkB]; omega
    rw [h1, h1]
    split
    · rw [if_neg (by simp [mkB]; omega)]
    · rfl
theorem mkB_congr {n : Nat} {p q : Nat → Bool} (h : ∀ s, s < n → p s = q s) : mkB n p = mkB n q := by
  unfold mkB
  refine List.map_congr_left fun s hs => ?_
  rw [h s (by simpa using hs)]
def GivesB (n : Nat) (p : Nat → Bool) (w : World) (e : Ending) (w' : World) : Prop := ∃ g, e = .returned (.slice (some ⟨g, 0, none⟩) n n) ∧ Hid (Sep w.heap.size w [eBlk g 4 (mkB n p)] w')
theorem take_mem {l : List Int} {k : Nat} {x : Int} (h : l[k]? = some x) (t : Nat) : (decide (t = x.toNat) || decide ((t : Int) ∈ l.take k)) = decide ((t : Int) ∈ l.take (k + 1)) ∨ x < 0 := by
  by_cases hx : x < 0
  · exact .inr hx
  · refine .inl ?_
    rw [List.take_add_one, h]
    rw [← Bool.decide_or, decide_eq_decide, List.mem_append]
    simp only [Option.toList_some, List.mem_singleton]
    rw [show t = x.toNat ↔ (t : Int) = x by omega, or_comm]
set_option maxHeartbeats 1000000 in
theorem marks_c (a : Au) (p : AuP) (w : World) (hr : ∀ x, x ∈ a.mr → 0 ≤ x ∧ x < a.n) (h0 : 0 ≤ a.n) (hn : a.n ≤ 4096) (hA : Au.At w a p) :
    Calls Tryd.prog 108 #[a.val p] w (GivesB a.n.toNat (fun s => decide ((s : Int) ∈ a.mr)) w) := by
  obtain ⟨al, n, mr, ed⟩ := a
  obtain ⟨N, rfl⟩ := Int.eq_ofNat_of_zero_le h0
  have HR := Lib.hid hr
  have HA := Lib.hid hA.mr
  have hml := hA.lmk
  dsimp only at HR hml hn h0 ⊢
  have hmk := make_run (P := Tryd.prog) 118 4 (.bool false) 1 Tryd.underlying118 boolInfo rfl N (by omega) (by omega)
  clear hr hA h0
  rw [Int.toNat_natCast]
  go_enter Tryd.func108, Tryd.ntmps108
  go_wp2_with fail
  refine wp_world (fun W => Sep w.heap.size w [eBlk (w.heap.size + 1) 4 (mkB N fun s => decide ((s : Int) ∈ mr.take 0))] W) ?_ fun W S0 => ?_
  · have e : (fun s : Nat => decide ((s : Int) ∈ mr.take 0)) = fun _ => false := by funext s; simp
    rw [e, ← mkB_rep]
    exact (((Sep.here w).alloc 35 [_, _, _, _]).alloc' _ _ rfl (by simp)).first
  clear hmk
  go_loopw [12] (fun i wr => ∃ k : Nat, i = .int .i64 k ∧ k ≤ mr.length ∧ Hid (Sep w.heap.size w [eBlk (w.heap.size + 1) 4 (mkB N fun s => decide ((s : Int) ∈ mr.take k))] wr)) (fun i _ => mr.length - (intOf i).toNat)
  case atStart => exact ⟨0, rfl, Nat.zero_le _, S0⟩
  case round =>
    clear S0
    obtain ⟨k, rfl, hk, S⟩ := hrel
    by_cases hlt : k < mr.length
    · obtain ⟨b, off, x, hAe, hb, hx, c0⟩ := IntsAt.at (HA.out.below IntE.stays S.out.below) hlt
      have hxr := HR.out x (List.mem_of_getElem? hx)
      obtain ⟨m, rfl⟩ := Int.eq_ofNat_of_zero_le hxr.1
      have c1 : wr.cell? ⟨w.heap.size + 1, m, none⟩ = some (.bool _) := (BlkAt.cell (S.out.get 0 rfl) m).trans (mkB_get (by omega))
      have f1 : wr.frozen? ⟨w.heap.size + 1, m, none⟩ = false := BlkAt.free (S.out.get 0 rfl) m
      have S2 : Hid (Sep w.heap.size w [eBlk (w.heap.size + 1) 4 (mkB N fun s => decide ((s : Int) ∈ mr.take (k + 1)))] (wr.setCell ⟨w.heap.size + 1, m, none⟩ (.bool true))) := by
        have h := S.out.set 0 rfl m (.bool true)
        rw [mkB_set] at h
        have e : (mkB N fun t => decide (t = m) || decide ((t : Int) ∈ mr.take k)) = mkB N fun s => decide ((s : Int) ∈ mr.take (k + 1)) := mkB_congr fun s _ => by
          rcases take_mem hx s with g | g
          · rw [← g, Int.toNat_natCast]
          · omega
        rw [e] at h
        exact h
      rw [hAe]
      clear hx S
      go_wp2_with fail
      go_roundw
      case rel => exact ⟨k + 1, by go_num, by omega, S2.out⟩
      case measure => simp [intOf]; omega
    · obtain rfl : k = mr.length := by omega
      have S3 : Hid (Sep w.heap.size w [eBlk (w.heap.size + 1) 4 (mkB N fun s => decide ((s : Int) ∈ mr))] wr) := by have h := S.out; rw [List.take_length] at h; exact h
      go_wp2_with fail
      go_ret
      exact ⟨_, rfl, S3.out⟩
end Go.Proofs.YtkifgffhoenaoaaDoor

namespace Go.Proofs.YtkifgffhoenaoaaDoor
set_option linter.unusedSimpArgs false
set_option linter.unusedVariables false

/-- Of words of one length. -/
def wlt : List Int → List Int → Prop
  | x :: u, y :: v => x < y ∨ x = y ∧ wlt u v
  | _, _ => False
/-- Shorter, or as long and less. -/
def slt (u v : List Int) : Prop := u.length < v.length ∨ u.length = v.length ∧ wlt u v
def sle (u v : List Int) : Prop := slt u v ∨ u = v

theorem wlt.irrefl : ∀ (u : List Int), ¬ wlt u u
  | [] => fun h => h
  | x :: u => fun h => by
    rcases h with h | ⟨_, h⟩
    · omega
    · exact wlt.irrefl u h
theorem wlt.trans : ∀ {u v w : List Int}, wlt u v → wlt v w → wlt u w
  | [], _, _, h, _ => h.elim
  | x :: u, [], _, h, _ => h.elim
  | x :: u, y :: v, [], _, h => h.elim
  | x :: u, y :: v, z :: w, h, k => by
    rcases h with h | ⟨h, h'⟩ <;> rcases k with k | ⟨k, k'⟩
    · exact .inl (by omega)
    · exact .inl (by omega)
    · exact .inl (by omega)
    · exact .inr ⟨by omega, wlt.trans h' k'⟩
theorem wlt.total : ∀ {u v : List Int}, u.length = v.length → wlt u v ∨ u = v ∨ wlt v u
  | [], [], _ => .inr (.inl rfl)
  | [], y :: v, h => by simp at h
  | x :: u, [], h => by simp at h
  | x :: u, y :: v, h => by
    rcases Int.lt_trichotomy x y with k | k | k
    · exact .inl (.inl k)
    · subst k
      rcases wlt.total (u := u) (v := v) (by simpa using h) with k | k | k
      · exact .inl (.inr ⟨rfl, k⟩)
      · exact .inr (.inl (by rw [k]))
      · exact .inr (.inr (.inr ⟨rfl, k⟩))
    · exact .inr (.inr (.inl k))
theorem wlt.app : ∀ {u v : List Int} (x y : List Int), wlt u v → u.length = v.length → wlt (u ++ x) (v ++ y)
  | [], _, _, _, h, _ => h.elim
  | a :: u, [], _, _, h, _ => h.elim
  | a :: u, b :: v, x, y, h, hl => by
    rcases h with h | ⟨h, h'⟩
    · exact .inl h
    · exact .inr ⟨h, wlt.app x y h' (by simpa using hl)⟩
theorem wlt.same : ∀ (u : List Int) {x y : List Int}, wlt x y → wlt (u ++ x) (u ++ y)
  | [], _, _, h => h
  | a :: u, _, _, h => .inr ⟨rfl, wlt.same u h⟩

theorem slt.irrefl (u : List Int) : ¬ slt u u := fun h => by
  rcases h with h | ⟨_, h⟩
  · omega
  · exact wlt.irrefl u h
theorem slt.trans {u v w : List Int} (h : slt u v) (k : slt v w) : slt u w := by
  rcases h with h | ⟨h, h'⟩ <;> rcases k with k | ⟨k, k'⟩
  · exact .inl (by omega)
  · exact .inl (by omega)
  · exact .inl (by omega)
  · exact .inr ⟨by omega, h'.trans k'⟩
theorem slt.total (u v : List Int) : slt u v ∨ u = v ∨ slt v u := by
  rcases Nat.lt_trichotomy u.length v.length with h | h | h
  · exact .inl (.inl h)
  · rcases wlt.total h with k | k | k
    · exact .inl (.inr ⟨h, k⟩)
    · exact .inr (.inl k)
    · exact .inr (.inr (.inr ⟨h.symm, k⟩))
  · exact .inr (.inr (.inl h))
theorem slt.asymm {u v : List Int} (h : slt u v) : ¬ slt v u := fun k => slt.irrefl u (h.trans k)
theorem sle.refl (u : List Int) : sle u u := .inr rfl
theorem sle.trans {u v w : List Int} (h : sle u v) (k : sle v w) : sle u w := by
  rcases h with h | rfl
  · rcases k with k | rfl
    · exact .inl (h.trans k)
    · exact .inl h
  · exact k
theorem slt.trans_le {u v w : List Int} (h : slt u v) (k : sle v w) : slt u w := by
  rcases k with k | rfl
  · exact h.trans k
  · exact h
theorem sle.trans_lt {u v w : List Int} (h : sle u v) (k : slt v w) : slt u w := by
  rcases h with h | rfl
  · exact h.trans k
  · exact k
theorem sle.not_lt {u v : List Int} (h : sle u v) : ¬ slt v u := fun k => slt.irrefl v (k.trans_le h)
theorem sle_of_not {u v : List Int} (h : ¬ slt v u) : sle u v := by
  rcases slt.total u v with k | k | k
  · exact .inl k
  · exact .inr k
  · exact absurd k h
theorem sle.antisymm {u v : List Int} (h : sle u v) (k : sle v u) : u = v := by
  rcases h with h | h
  · exact absurd h k.not_lt
  · exact h
theorem sle_nil (u : List Int) : sle [] u := by
  cases u with
  | nil => exact .inr rfl
  | cons x u => exact .inl (.inl (by simp))
/-- One event more. -/
theorem slt.snoc {u v : List Int} (h : slt u v) (x y : Int) : slt (u ++ [x]) (v ++ [y]) := by
  rcases h with h | ⟨h, h'⟩
  · exact .inl (by simp; omega)
  · exact .inr ⟨by simp [h], h'.app _ _ h⟩
theorem slt_snoc_lt (u : List Int) {x y : Int} (h : x < y) : slt (u ++ [x]) (u ++ [y]) := .inr ⟨by simp, wlt.same u (.inl h)⟩
theorem slt_snoc (u : List Int) (x : Int) : slt u (u ++ [x]) := .inl (by simp)
theorem sle.snoc {u v : List Int} (h : sle u v) (x : Int) : sle (u ++ [x]) (v ++ [x]) := by
  rcases h with h | rfl
  · exact .inl (h.snoc x x)
  · exact .inr rfl
theorem sle_snoc2 {u v : List Int} (h : sle u v) {x y : Int} (hxy : u = v → x ≤ y) : sle (u ++ [x]) (v ++ [y]) := by
  rcases h with h | rfl
  · exact .inl (h.snoc x y)
  · rcases Int.lt_or_eq_of_le (hxy rfl) with k | rfl
    · exact .inl (slt_snoc_lt _ k)
    · exact .inr rfl

/-- The least word with a property. -/
structure LeastW (P : List Int → Prop) (w : List Int) : Prop where
  is : P w
  le : ∀ v, P v → sle w v
theorem LeastW.uniq {P : List Int → Prop} {u v : List Int} (h : LeastW P u) (k : LeastW P v) : u = v := (h.le v k.is).antisymm (k.le u h.is)
theorem LeastW.congr {P Q : List Int → Prop} {u : List Int} (h : LeastW P u) (k : ∀ w, P w ↔ Q w) : LeastW Q u := ⟨(k u).1 h.is, fun v hv => h.le v ((k v).2 hv)⟩

/-- Each element is before each later one. -/
def Rises {α : Type} (R : α → α → Prop) (l : List α) : Prop := ∀ (i j : Nat) (u v : α), i < j → l[i]? = some u → l[j]? = some v → R u v
theorem Rises.push {α : Type} {R : α → α → Prop} {l : List α} (h : Rises R l) {w : α} (hw : ∀ u, u ∈ l → R u w) : Rises R (l ++ [w]) := by
  intro i j u v hij hu hv
  have hj := (List.getElem?_eq_some_iff.1 hv).1
  simp at hj
  have hil : i < l.length := by omega
  rw [List.getElem?_append_left hil] at hu
  by_cases e : j < l.length
  · rw [List.getElem?_append_left e] at hv
    exact h i j u v hij hu hv
  · obtain rfl : j = l.length := by omega
    simp at hv; subst hv
    exact hw u (List.mem_of_getElem? hu)
theorem Rises.head {α : Type} {R : α → α → Prop} {x : α} {l : List α} (h : Rises R (x :: l)) : ∀ y, y ∈ l → R x y := fun y hy => by
  obtain ⟨j, hj, rfl⟩ := List.mem_iff_getElem.1 hy
  exact h 0 (j + 1) x _ (by omega) rfl (by simp [List.getElem?_eq_getElem hj])
theorem Rises.tail {α : Type} {R : α → α → Prop} {x : α} {l : List α} (h : Rises R (x :: l)) : Rises R l := fun i j u v hij hu hv => h (i + 1) (j + 1) u v (by omega) (by simpa using hu) (by simpa using hv)
/-- Two lists that rise and have the same elements are one. -/
theorem Rises.ext {α : Type} {R : α → α → Prop} (ir : ∀ x, ¬ R x x) (asy : ∀ x y, R x y → ¬ R y x) : ∀ {l m : List α}, Rises R l → Rises R m → (∀ w, w ∈ l ↔ w ∈ m) → l = m
  | [], [], _, _, _ => rfl
  | [], y :: m, _, _, h => by have := (h y).2 (by simp); simp at this
  | x :: l, [], _, _, h => by have := (h x).1 (by simp); simp at this
  | x :: l, y :: m, hl, hm, h => by
    have hxy : x = y := by
      rcases List.mem_cons.1 ((h x).1 (by simp)) with k | k
      · exact k
      · rcases List.mem_cons.1 ((h y).2 (by simp)) with k' | k'
        · exact k'.symm
        · exact absurd (hm.head x k) (asy _ _ (hl.head y k'))
    subst hxy
    congr 1
    refine Rises.ext ir asy hl.tail hm.tail fun w => ⟨fun hw => ?_, fun hw => ?_⟩
    · rcases List.mem_cons.1 ((h w).1 (by simp [hw])) with k | k
      · subst k; exact absurd (hl.head w hw) (ir w)
      · exact k
    · rcases List.mem_cons.1 ((h w).2 (by simp [hw])) with k | k
      · subst k; exact absurd (hm.head w hw) (ir w)
      · exact k
abbrev Asc := Rises slt
end Go.Proofs.YtkifgffhoenaoaaDoor

namespace Go.Proofs.YtkifgffhoenaoaaDoor
set_option linter.unusedSimpArgs false
set_option linter.unusedVariables false

theorem runV_app (l : List Ed) : ∀ (u v : List Int) (s : Int), runV l s (u ++ v) = runV l (runV l s u) v
  | [], v, s => rfl
  | e :: u, v, s => by
    rw [List.cons_append]
    by_cases h : 0 ≤ s
    · simp only [runV, h, if_true]
      exact runV_app l u v _
    · rw [runV_neg l (by omega), runV_neg l (by omega) (e :: u), runV_neg l (by omega)]
/-- Where words begin. -/
def Au.st (a : Au) : Int := if a.n = 0 then -1 else 0
/-- The state to which a word leads, or -1. -/
def rn (a : Au) (w : List Int) : Int := runV a.ed a.st w
theorem rn_app (a : Au) (u v : List Int) : rn a (u ++ v) = runV a.ed (rn a u) v := runV_app ..
theorem rn_nil (a : Au) : rn a [] = a.st := rfl
theorem rn_snoc (a : Au) (u : List Int) (e : Int) (h : 0 ≤ rn a u) : rn a (u ++ [e]) = nextV a.ed (rn a u) e := by
  rw [rn_app]; simp [runV, h]
theorem Au.Right.mem {a : Au} (h : a.Right) {x : Int} (hx : x ∈ a.mr) : 0 ≤ x ∧ x < a.n := by
  obtain ⟨i, hi, rfl⟩ := List.mem_iff_getElem.1 hx
  have := h.mr i _ hi (List.getElem?_eq_getElem hi)
  exact ⟨this.1, this.2.1⟩
theorem Au.Right.run_lt {a : Au} (h : a.Right) : ∀ (w : List Int) (s : Int), 0 ≤ s → s < a.n → 0 ≤ runV a.ed s w → runV a.ed s w < a.n
  | [], s, _, hn, _ => hn
  | e :: r, s, hs, hn, h0 => by
    simp only [runV, hs, if_true] at h0 ⊢
    rcases h.next_cases s e with k | k
    · rw [k, runV_neg _ (by omega)] at h0; omega
    · exact h.run_lt r _ k.1 k.2.1 h0
theorem Au.Right.rn_cases {a : Au} (h : a.Right) (w : List Int) : rn a w = -1 ∨ 0 ≤ rn a w ∧ rn a w < a.n := by
  unfold rn Au.st
  by_cases e : a.n = 0
  · rw [if_pos e, runV_neg _ (by omega)]; exact .inl rfl
  · rw [if_neg e]
    rcases h.run_cases w 0 (by omega) with k | k
    · exact .inl k
    · exact .inr ⟨k, h.run_lt w 0 (by omega) (by have := h.n0; omega) k⟩
theorem rn_pre {a : Au} {u v : List Int} (h : 0 ≤ rn a (u ++ v)) : 0 ≤ rn a u := by
  rcases Int.lt_or_le (rn a u) 0 with k | k
  · rw [rn_app, runV_neg _ k] at h; omega
  · exact k

/-- The minimal automaton of a language, its states numbered as words find them. -/
structure IsMin (a : Au) (L : List Int → Prop) : Prop where
  rt : a.Right
  ws : ∃ ws : List (List Int), ws.length = a.n.toNat ∧ Asc ws ∧ ∀ (i : Nat) (w : List Int), ws[i]? = some w → LeastW (fun v => rn a v = (i : Int)) w
  co : ∀ i : Int, 0 ≤ i → i < a.n → ∃ w, runV a.ed i w ∈ a.mr
  ds : ∀ i j : Int, 0 ≤ i → i < a.n → 0 ≤ j → j < a.n → (∀ w, runV a.ed i w ∈ a.mr ↔ runV a.ed j w ∈ a.mr) → i = j
  lang : ∀ w, rn a w ∈ a.mr ↔ L w

theorem IsMin.congr {a : Au} {L M : List Int → Prop} (h : IsMin a L) (k : ∀ w, L w ↔ M w) : IsMin a M := ⟨h.rt, h.ws, h.co, h.ds, fun w => (h.lang w).trans (k w)⟩
/-- A word that can be made one of the language. -/
def Liv (L : List Int → Prop) (w : List Int) : Prop := ∃ v, L (w ++ v)
/-- What can follow is the same. -/
def Alik (L : List Int → Prop) (u v : List Int) : Prop := ∀ x, L (u ++ x) ↔ L (v ++ x)
/-- The least of the words that are like it. -/
def Fst (L : List Int → Prop) (w : List Int) : Prop := Liv L w ∧ ∀ v, Liv L v → Alik L v w → sle w v

section
variable {a b : Au} {L : List Int → Prop}
theorem IsMin.liv (h : IsMin a L) (w : List Int) : 0 ≤ rn a w ↔ Liv L w := by
  constructor
  · intro h0
    rcases h.rt.rn_cases w with k | k
    · omega
    · obtain ⟨v, hv⟩ := h.co _ k.1 k.2
      exact ⟨v, (h.lang _).1 (by rw [rn_app]; exact hv)⟩
  · rintro ⟨v, hv⟩
    have := h.rt.mem ((h.lang _).2 hv)
    exact rn_pre this.1
theorem IsMin.alik (h : IsMin a L) {u v : List Int} (hu : 0 ≤ rn a u) (hv : 0 ≤ rn a v) : rn a u = rn a v ↔ Alik L u v := by
  constructor
  · intro e x
    rw [← h.lang, ← h.lang, rn_app, rn_app, e]
  · intro e
    rcases h.rt.rn_cases u with k | k
    · omega
    rcases h.rt.rn_cases v with k' | k'
    · omega
    refine h.ds _ _ k.1 k.2 k'.1 k'.2 fun w => ?_
    rw [← rn_app, ← rn_app, h.lang, h.lang]
    exact e w
theorem IsMin.fst (h : IsMin a L) {ws : List (List Int)} (hl : ws.length = a.n.toNat) (hw : ∀ (i : Nat) (w : List Int), ws[i]? = some w → LeastW (fun v => rn a v = (i : Int)) w) (w : List Int) : w ∈ ws ↔ Fst L w := by
  constructor
  · intro hm
    obtain ⟨i, hi, rfl⟩ := List.mem_iff_getElem.1 hm
    have k := hw i _ (List.getElem?_eq_getElem hi)
    have h0 : 0 ≤ rn a ws[i] := by rw [k.is]; omega
    refine ⟨(h.liv _).1 h0, fun v hv ha => k.le v ?_⟩
    rw [← k.is]
    exact (h.alik ((h.liv v).2 hv) h0).2 ha
  · rintro ⟨hv, hle⟩
    have h0 := (h.liv w).2 hv
    rcases h.rt.rn_cases w with k | k
    · omega
    obtain ⟨i, hi⟩ := Int.eq_ofNat_of_zero_le k.1
    have hil : i < ws.length := by omega
    have g := hw i _ (List.getElem?_eq_getElem hil)
    have h1 : 0 ≤ rn a ws[i] := by rw [g.is]; omega
    have e1 : sle w ws[i] := hle _ ((h.liv _).1 h1) ((h.alik h1 h0).1 (by rw [g.is, hi]))
    have e2 : sle ws[i] w := g.le w hi
    rw [e1.antisymm e2]
    exact List.getElem_mem _
theorem incr.rises {l : List Int} (h : incr l) : Rises (fun x y : Int => x < y) l := h
def edLt (x y : Ed) : Prop := x.src < y.src ∨ x.src = y.src ∧ x.ev < y.ev
theorem Au.Right.rises (h : a.Right) : Rises edLt a.ed := fun i j x y hij hx hy => h.lex i j x y hij hx hy

theorem IsMin.uniq (h : IsMin a L) (k : IsMin b L) (hal : a.al = b.al) : a = b := by
  obtain ⟨wa, la, asa, ha⟩ := h.ws
  obtain ⟨wb, lb, asb, hb⟩ := k.ws
  obtain rfl : wa = wb := Rises.ext slt.irrefl (fun _ _ h => slt.asymm h) asa asb fun w => (h.fst la ha w).trans (k.fst lb hb w).symm
  have hn : a.n = b.n := by have := h.rt.n0; have := k.rt.n0; omega
  have hrn : ∀ w, rn a w = rn b w := by
    intro w
    rcases h.rt.rn_cases w with g | g
    · rcases k.rt.rn_cases w with g' | g'
      · rw [g, g']
      · have := (h.liv w).2 ((k.liv w).1 g'.1); omega
    · obtain ⟨i, hi⟩ := Int.eq_ofNat_of_zero_le g.1
      have hil : i < wa.length := by omega
      have e1 := ha i _ (List.getElem?_eq_getElem hil)
      have e2 := hb i _ (List.getElem?_eq_getElem hil)
      have h1 : 0 ≤ rn a wa[i] := by rw [e1.is]; omega
      have h2 : 0 ≤ rn b wa[i] := by rw [e2.is]; omega
      have h3 := (k.liv w).2 ((h.liv w).1 g.1)
      have := (k.alik h3 h2).2 ((h.alik g.1 h1).1 (by rw [hi, e1.is]))
      rw [hi, this, e2.is]
  have hget : ∀ s : Int, 0 ≤ s → s < a.n → ∃ w, rn a w = s ∧ rn b w = s := by
    intro s h0 h1
    obtain ⟨i, rfl⟩ := Int.eq_ofNat_of_zero_le h0
    have hil : i < wa.length := by omega
    exact ⟨_, (ha i _ (List.getElem?_eq_getElem hil)).is, (hb i _ (List.getElem?_eq_getElem hil)).is⟩
  have hmr : a.mr = b.mr := by
    refine Rises.ext (R := fun x y : Int => x < y) (fun x => by omega) (fun x y => by omega) h.rt.mr.incr k.rt.mr.incr fun x => ⟨fun hx => ?_, fun hx => ?_⟩
    · obtain ⟨w, e1, e2⟩ := hget x (h.rt.mem hx).1 (h.rt.mem hx).2
      rw [← e2]
      exact (k.lang w).2 ((h.lang w).1 (by rw [e1]; exact hx))
    · obtain ⟨w, e1, e2⟩ := hget x (k.rt.mem hx).1 (by rw [hn]; exact (k.rt.mem hx).2)
      rw [← e1]
      exact (h.lang w).2 ((k.lang w).1 (by rw [e2]; exact hx))
  have hnx : ∀ s e : Int, 0 ≤ s → s < a.n → nextV a.ed s e = nextV b.ed s e := by
    intro s e h0 h1
    obtain ⟨w, e1, e2⟩ := hget s h0 h1
    have := hrn (w ++ [e])
    rw [rn_snoc a w e (by omega), rn_snoc b w e (by omega), e1, e2] at this
    exact this
  have edg : ∀ {c : Au}, c.Right → ∀ {x : Ed}, x ∈ c.ed → nextV c.ed x.src x.ev = x.dst ∧ 0 ≤ x.src ∧ x.src < c.n ∧ 0 ≤ x.dst := by
    intro c hc x hx
    obtain ⟨j, hj, hjx⟩ := List.mem_iff_getElem.1 hx
    have := hc.ed j hj x (by rw [List.getElem?_eq_getElem hj, hjx])
    refine ⟨?_, this.1, this.2.1, this.2.2.1⟩
    unfold nextV
    cases hf : c.ed.find? (fun y => decide (y.src = x.src) && decide (y.ev = x.ev)) with
    | none =>
      rw [List.find?_eq_none] at hf
      have := hf x hx
      simp at this
    | some y =>
      have h1 := List.mem_of_find?_eq_some hf
      have h2 := List.find?_some hf
      simp only [Bool.and_eq_true, decide_eq_true_eq] at h2
      rw [hc.uniq h1 hx h2.1 h2.2]
      rfl
  have back : ∀ {c d : Au}, c.Right → d.Right → (∀ s e : Int, 0 ≤ s → s < c.n → nextV c.ed s e = nextV d.ed s e) → ∀ x, x ∈ c.ed → x ∈ d.ed := by
    intro c d hc hd he x hx
    obtain ⟨h1, h2, h3, h4⟩ := edg hc hx
    rw [he _ _ h2 h3] at h1
    rcases hd.next_cases x.src x.ev with g | ⟨_, _, y, hy, y1, y2, y3⟩
    · omega
    · obtain rfl : y = x := by
        obtain ⟨p, q, r⟩ := x
        obtain ⟨p', q', r'⟩ := y
        simp only at y1 y2 y3 h1
        rw [y1, y2, y3, h1]
      exact hy
  have hed : a.ed = b.ed := by
    refine Rises.ext (R := edLt) (fun x h => by unfold edLt at h; omega) (fun x y h h' => by unfold edLt at h h'; omega) h.rt.rises k.rt.rises fun x => ⟨back h.rt k.rt hnx x, back k.rt h.rt (fun s e h0 h1 => (hnx s e h0 (by rw [hn]; exact h1)).symm) x⟩
  obtain ⟨al, n, mr, ed⟩ := a
  obtain ⟨al', n', mr', ed'⟩ := b
  simp only at hal hn hmr hed
  rw [hal, hn, hmr, hed]
end
end Go.Proofs.YtkifgffhoenaoaaDoor

namespace Go.Proofs.YtkifgffhoenaoaaDoor
set_option linter.unusedSimpArgs false
set_option linter.unusedVariables false

theorem snoc_ind {α : Type} {P : List α → Prop} (h0 : P []) (h1 : ∀ u e, P u → P (u ++ [e])) (w : List α) : P w := by
  rw [← List.reverse_reverse w]
  generalize w.reverse = v
  induction v with
  | nil => exact h0
  | cons x v ih => rw [List.reverse_cons]; exact h1 _ _ ih

/-- The edge at p is the first one that leads to k, and none ahead of it leads farther. -/
structure FirstE (ed : List Ed) (k : Nat) (p : Nat) (x : Ed) : Prop where
  at_ : ed[p]? = some x
  dst : x.dst = k
  src : x.src < k
  le : ∀ q y, q < p → ed[q]? = some y → y.dst < k
/-- States are numbered as the edges find them. -/
def Num (ed : List Ed) (n : Int) : Prop := ∀ k : Nat, 0 < k → (k : Int) < n → ∃ p x, FirstE ed k p x

theorem FirstE.lt {ed : List Ed} {k k' p p' : Nat} {x x' : Ed} (h : FirstE ed k p x) (h' : FirstE ed k' p' x') (hk : k < k') : p < p' := by
  rcases Nat.lt_trichotomy p p' with g | g | g
  · exact g
  · subst g
    have := h.at_; rw [h'.at_] at this; cases this
    have := h.dst; have := h'.dst; omega
  · have := h.le p' x' g h'.at_
    have := h'.dst
    omega

/-- Words of the first m states. -/
structure WsUp (a : Au) (m : Nat) (ws : List (List Int)) : Prop where
  len : ws.length = m
  asc : Asc ws
  run : ∀ (i : Nat) (w : List Int), ws[i]? = some w → rn a w = (i : Int)
  z : 0 < m → ws[0]? = some []
  fe : ∀ (k : Nat) (w : List Int), 0 < k → ws[k]? = some w → ∃ p x u, FirstE a.ed k p x ∧ ws[x.src.toNat]? = some u ∧ w = u ++ [x.ev]

section
variable {a : Au}
theorem Au.Right.edge (h : a.Right) {p : Nat} {x : Ed} (hx : a.ed[p]? = some x) : 0 ≤ x.src ∧ x.src < a.n ∧ 0 ≤ x.dst ∧ x.dst < a.n ∧ x.ev ∈ a.al := by
  have := h.ed p (List.getElem?_eq_some_iff.1 hx).1 x hx
  exact ⟨this.1, this.2.1, this.2.2.1, this.2.2.2.1, this.2.2.2.2.1⟩
theorem Au.Right.nextE (h : a.Right) {p : Nat} {x : Ed} (hx : a.ed[p]? = some x) : nextV a.ed x.src x.ev = x.dst := by
  have hm := List.mem_of_getElem? hx
  unfold nextV
  cases hf : a.ed.find? (fun y => decide (y.src = x.src) && decide (y.ev = x.ev)) with
  | none =>
    rw [List.find?_eq_none] at hf
    have := hf x hm
    simp at this
  | some y =>
    have h1 := List.mem_of_find?_eq_some hf
    have h2 := List.find?_some hf
    simp only [Bool.and_eq_true, decide_eq_true_eq] at h2
    rw [h.uniq h1 hm h2.1 h2.2]
    rfl
theorem getElem?_snoc {α : Type} {l : List α} {w : α} {i : Nat} {v : α} (h : (l ++ [w])[i]? = some v) : l[i]? = some v ∨ i = l.length ∧ v = w := by
  by_cases e : i < l.length
  · rw [List.getElem?_append_left e] at h; exact .inl h
  · have hi := (List.getElem?_eq_some_iff.1 h).1
    simp at hi
    obtain rfl : i = l.length := by omega
    simp at h
    exact .inr ⟨rfl, h.symm⟩
theorem get_keep {α : Type} {l : List α} {i : Nat} {v : α} (h : l[i]? = some v) (w : α) : (l ++ [w])[i]? = some v := by
  rw [List.getElem?_append_left (List.getElem?_eq_some_iff.1 h).1]; exact h

theorem WsUp.step (hr : a.Right) (hn : a.n ≠ 0) {m : Nat} {ws : List (List Int)} (h : WsUp a m ws) (hm : (m : Int) < a.n) (nu : Num a.ed a.n) : ∃ ws', WsUp a (m + 1) ws' := by
  by_cases h0 : m = 0
  · subst h0
    have hst : a.st = 0 := if_neg hn
    refine ⟨[[]], rfl, fun i j u v hij hu hv => ?_, fun i w hi => ?_, fun _ => rfl, fun k w hk hw => ?_⟩
    · have := (List.getElem?_eq_some_iff.1 hv).1; simp at this; omega
    · have := (List.getElem?_eq_some_iff.1 hi).1
      obtain rfl : i = 0 := by simp at this; omega
      simp at hi; subst hi
      exact hst
    · have := (List.getElem?_eq_some_iff.1 hw).1; simp at this; omega
  · obtain ⟨p, x, fe⟩ := nu m (by omega) hm
    have he := hr.edge fe.at_
    have hsl : x.src.toNat < ws.length := by have := fe.src; rw [h.len]; omega
    obtain ⟨u, hu⟩ : ∃ u, ws[x.src.toNat]? = some u := ⟨_, List.getElem?_eq_getElem hsl⟩
    have hru := h.run _ _ hu
    have hnew : rn a (u ++ [x.ev]) = (m : Int) := by
      rw [rn_snoc a u _ (by omega), hru, ← fe.dst, ← hr.nextE fe.at_]
      congr 1
      omega
    -- the last word so far is less
    have hlast : ∀ v, ws[m - 1]? = some v → slt v (u ++ [x.ev]) := by
      intro v hv
      by_cases h1 : m - 1 = 0
      · rw [h1, h.z (by omega)] at hv; cases hv
        exact .inl (by simp)
      · obtain ⟨p', x', u', fe', hu', rfl⟩ := h.fe (m - 1) v (by omega) hv
        have hp : p' < p := fe'.lt fe (by omega)
        have hs' := (hr.edge fe'.at_).1
        rcases hr.lex p' p x' x hp fe'.at_ fe.at_ with g | ⟨g, g'⟩
        · exact (h.asc _ _ u' u (by omega) hu' hu).snoc _ _
        · have : x'.src.toNat = x.src.toNat := by omega
          rw [this, hu] at hu'; cases hu'
          exact slt_snoc_lt _ g'
    refine ⟨ws ++ [u ++ [x.ev]], by simp [h.len], h.asc.push fun v hv => ?_, fun i w hi => ?_, fun _ => get_keep (h.z (by omega)) _, fun k w hk hw => ?_⟩
    · obtain ⟨i, hi, rfl⟩ := List.mem_iff_getElem.1 hv
      have hml : m - 1 < ws.length := by rw [h.len]; omega
      have g := hlast _ (List.getElem?_eq_getElem hml)
      by_cases e : i = m - 1
      · subst e; exact g
      · exact (h.asc i (m - 1) _ _ (by have := h.len; omega) (List.getElem?_eq_getElem hi) (List.getElem?_eq_getElem hml)).trans g
    · rcases getElem?_snoc hi with g | ⟨g, rfl⟩
      · exact h.run i w g
      · rw [g, h.len]; exact hnew
    · rcases getElem?_snoc hw with g | ⟨g, rfl⟩
      · obtain ⟨p', x', u', k1, k2, k3⟩ := h.fe k w hk g
        exact ⟨p', x', u', k1, get_keep k2 _, k3⟩
      · rw [g, h.len]
        exact ⟨p, x, u, fe, get_keep hu _, rfl⟩
theorem WsUp.all (hr : a.Right) (hn : a.n ≠ 0) (nu : Num a.ed a.n) : ∀ (m : Nat), (m : Int) ≤ a.n → ∃ ws, WsUp a m ws
  | 0, _ => ⟨[], rfl, fun i j u v _ hu => by simp at hu, fun i w h => by simp at h, fun h => absurd h (by omega), fun k w _ h => by simp at h⟩
  | m + 1, h => by
    obtain ⟨ws, k⟩ := WsUp.all hr hn nu m (by omega)
    exact k.step hr hn (by omega) nu
theorem WsUp.least (hr : a.Right) (hn : a.n ≠ 0) {ws : List (List Int)} (h : WsUp a a.n.toNat ws) (w : List Int) : ∀ (i : Nat) (v : List Int), rn a w = (i : Int) → ws[i]? = some v → sle v w := by
  have hn0 := hr.n0
  refine snoc_ind (P := fun w => ∀ (i : Nat) (v : List Int), rn a w = (i : Int) → ws[i]? = some v → sle v w) ?_ ?_ w
  · intro i v hi hv
    have : a.st = 0 := if_neg hn
    rw [rn_nil, this] at hi
    obtain rfl : i = 0 := by omega
    rw [h.z (by omega)] at hv; cases hv
    exact sle.refl _
  · intro u e ih i v hi hv
    have hu0 : 0 ≤ rn a u := rn_pre (v := [e]) (by omega)
    rcases hr.rn_cases u with g | ⟨g0, g1⟩
    · omega
    obtain ⟨j, hj⟩ := Int.eq_ofNat_of_zero_le g0
    obtain ⟨uj, huj⟩ : ∃ uj, ws[j]? = some uj := ⟨_, List.getElem?_eq_getElem (by rw [h.len]; omega)⟩
    have hle := ih j uj hj huj
    by_cases hi0 : i = 0
    · subst hi0
      rw [h.z (by omega)] at hv; cases hv
      exact sle_nil _
    · rw [rn_snoc a u e hu0] at hi
      rcases hr.next_cases (rn a u) e with k | ⟨_, _, y, hy, y1, y2, y3⟩
      · omega
      obtain ⟨q, hq, hqy⟩ := List.mem_iff_getElem.1 hy
      have hqy' : a.ed[q]? = some y := by rw [List.getElem?_eq_getElem hq, hqy]
      obtain ⟨p, x, ux, fe, hux, rfl⟩ := h.fe i v (by omega) hv
      have hpq : p ≤ q := by
        rcases Nat.lt_or_ge q p with k | k
        · have := fe.le q y k hqy'; omega
        · exact k
      have hxs := (hr.edge fe.at_).1
      have hcase : x.src < y.src ∨ x.src = y.src ∧ x.ev ≤ y.ev := by
        rcases Nat.lt_or_eq_of_le hpq with k | k
        · rcases hr.lex p q x y k fe.at_ hqy' with k' | k'
          · exact .inl k'
          · exact .inr ⟨k'.1, by omega⟩
        · subst k
          have := fe.at_; rw [hqy'] at this; cases this
          exact .inr ⟨rfl, Int.le_refl _⟩
      rcases hcase with k | ⟨k, k'⟩
      · exact .inl (((h.asc _ _ ux uj (by omega) hux huj).trans_le hle).snoc _ _)
      · have : x.src.toNat = j := by omega
        rw [this, huj] at hux; cases hux
        exact sle_snoc2 hle fun _ => by omega
/-- What IsMin wants of the numbers. -/
theorem Num.ws (hr : a.Right) (nu : Num a.ed a.n) : ∃ ws : List (List Int), ws.length = a.n.toNat ∧ Asc ws ∧ ∀ (i : Nat) (w : List Int), ws[i]? = some w → LeastW (fun v => rn a v = (i : Int)) w := by
  by_cases hn : a.n = 0
  · exact ⟨[], by simp [hn], fun i j u v _ hu => by simp at hu, fun i w h => by simp at h⟩
  · obtain ⟨ws, h⟩ := WsUp.all hr hn nu a.n.toNat (by have := hr.n0; omega)
    exact ⟨ws, h.len, h.asc, fun i w hi => ⟨h.run i w hi, fun v hv => h.least hr hn v i w hv hi⟩⟩
end
end Go.Proofs.YtkifgffhoenaoaaDoor

namespace Go.Proofs.YtkifgffhoenaoaaDoor
set_option linter.unusedSimpArgs false
set_option linter.unusedVariables false

section
variable {σ κ : Type} {key : σ → κ} {out : σ → List (Int × σ)} {s0 : σ}

/-- What has been built: the states before i, and the first k edges of the state i. -/
structure Bld (key : σ → κ) (out : σ → List (Int × σ)) (s0 : σ) (i k : Nat) (fs : List σ) (ed : List Ed) : Prop where
  z : fs[0]? = some s0
  nd : ∀ (j j' : Nat) v v', fs[j]? = some v → fs[j']? = some v' → key v = key v' → j = j'
  so : ∀ x, x ∈ ed → ∃ (j d : Nat) (v t u : σ), x.src = (j : Int) ∧ x.dst = (d : Int) ∧ fs[j]? = some v ∧ (x.ev, t) ∈ out v ∧ fs[d]? = some u ∧ key u = key t
  co : ∀ (j q : Nat) v e t, fs[j]? = some v → (out v)[q]? = some (e, t) → (j < i ∨ j = i ∧ q < k) → ∃ (d : Nat) (u : σ), (⟨(j : Int), e, (d : Int)⟩ : Ed) ∈ ed ∧ fs[d]? = some u ∧ key u = key t
  up : Rises edLt ed
  be : ∀ x, x ∈ ed → x.src < (i : Int) ∨ x.src = (i : Int) ∧ ∃ v, fs[i]? = some v ∧ ∃ (q : Nat) (t : σ), q < k ∧ (out v)[q]? = some (x.ev, t)
  fe : ∀ t : Nat, 0 < t → t < fs.length → ∃ p x, FirstE ed t p x

theorem Bld.start : Bld key out s0 0 0 [s0] [] :=
  ⟨rfl, fun j j' v v' h h' _ => by
    have := (List.getElem?_eq_some_iff.1 h).1
    have := (List.getElem?_eq_some_iff.1 h').1
    simp at *; omega, by simp, fun j q v e t _ _ h => by omega, fun i j u v _ hu => by simp at hu, by simp, fun t h1 h2 => by simp at h2; omega⟩
theorem Bld.next {i : Nat} {fs : List σ} {ed : List Ed} {v : σ} (h : Bld key out s0 i (out v).length fs ed) (hv : fs[i]? = some v) : Bld key out s0 (i + 1) 0 fs ed :=
  ⟨h.z, h.nd, h.so, fun j q v' e t hv' hq hc => by
    by_cases g : j < i
    · exact h.co j q v' e t hv' hq (.inl g)
    · obtain rfl : j = i := by omega
      rw [hv] at hv'; cases hv'
      exact h.co j q v e t hv hq (.inr ⟨rfl, (List.getElem?_eq_some_iff.1 hq).1⟩), h.up, fun x hx => by
    rcases h.be x hx with g | ⟨g, _⟩
    · exact .inl (by omega)
    · exact .inl (by omega), h.fe⟩
/-- The edges of a state go up. -/
def Ups (l : List (Int × σ)) : Prop := ∀ (p q : Nat) x y, p < q → l[p]? = some x → l[q]? = some y → x.1 < y.1
theorem FirstE.snoc {ed : List Ed} {k p : Nat} {x : Ed} (h : FirstE ed k p x) (y : Ed) : FirstE (ed ++ [y]) k p x :=
  ⟨get_keep h.at_ y, h.dst, h.src, fun q z hq hz => by
    rw [List.getElem?_append_left (by have := (List.getElem?_eq_some_iff.1 h.at_).1; omega)] at hz
    exact h.le q z hq hz⟩
theorem Bld.less {i k : Nat} {fs : List σ} {ed : List Ed} (h : Bld key out s0 i k fs ed) {v : σ} (hv : fs[i]? = some v) (hu : Ups (out v)) {e : Int} {t : σ} (he : (out v)[k]? = some (e, t)) (d : Int) : ∀ x, x ∈ ed → edLt x ⟨i, e, d⟩ := by
  intro x hx
  rcases h.be x hx with g | ⟨g, v', hv', q, t', hq, hqt⟩
  · exact .inl g
  · rw [hv] at hv'; cases hv'
    exact .inr ⟨g, hu q k _ _ hq hqt he⟩
/-- The state to which an edge leads is known. -/
theorem Bld.old {i k : Nat} {fs : List σ} {ed : List Ed} (h : Bld key out s0 i k fs ed) {v : σ} (hv : fs[i]? = some v) (hu : Ups (out v)) {e : Int} {t u : σ} {d : Nat} (he : (out v)[k]? = some (e, t)) (hd : fs[d]? = some u) (hk : key u = key t) :
    Bld key out s0 i (k + 1) fs (ed ++ [⟨i, e, d⟩]) := by
  refine ⟨h.z, h.nd, fun x hx => ?_, fun j q v' e' t' hv' hq hc => ?_, h.up.push (h.less hv hu he d), fun x hx => ?_, fun m h1 h2 => ?_⟩
  · rcases List.mem_append.1 hx with g | g
    · exact h.so x g
    · simp at g; subst g
      exact ⟨i, d, v, t, u, rfl, rfl, hv, List.mem_of_getElem? he, hd, hk⟩
  · by_cases hold : j < i ∨ j = i ∧ q < k
    · obtain ⟨d', u', h1, h2, h3⟩ := h.co j q v' e' t' hv' hq hold
      exact ⟨d', u', List.mem_append_left _ h1, h2, h3⟩
    · obtain ⟨rfl, rfl⟩ : j = i ∧ q = k := by omega
      rw [hv] at hv'; cases hv'
      rw [he] at hq; cases hq
      exact ⟨d, u, by simp, hd, hk⟩
  · rcases List.mem_append.1 hx with g | g
    · rcases h.be x g with k1 | ⟨k1, v', h2, q, t', h3, h4⟩
      · exact .inl k1
      · exact .inr ⟨k1, v', h2, q, t', by omega, h4⟩
    · simp at g; subst g
      exact .inr ⟨rfl, v, hv, k, t, by omega, he⟩
  · obtain ⟨p, x, hf⟩ := h.fe m h1 h2
    exact ⟨p, x, hf.snoc _⟩
theorem Bld.dlt {i k : Nat} {fs : List σ} {ed : List Ed} (h : Bld key out s0 i k fs ed) : ∀ x, x ∈ ed → 0 ≤ x.src ∧ x.src < fs.length ∧ 0 ≤ x.dst ∧ x.dst < fs.length := by
  intro x hx
  obtain ⟨j, d, v, t, u, h1, h2, h3, _, h5, _⟩ := h.so x hx
  have := (List.getElem?_eq_some_iff.1 h3).1
  have := (List.getElem?_eq_some_iff.1 h5).1
  omega
/-- It is a new one. -/
theorem Bld.new {i k : Nat} {fs : List σ} {ed : List Ed} (h : Bld key out s0 i k fs ed) {v : σ} (hv : fs[i]? = some v) (hu : Ups (out v)) {e : Int} {t : σ} (he : (out v)[k]? = some (e, t)) (hn : ∀ u, u ∈ fs → key u ≠ key t) :
    Bld key out s0 i (k + 1) (fs ++ [t]) (ed ++ [⟨i, e, fs.length⟩]) := by
  have hil := (List.getElem?_eq_some_iff.1 hv).1
  have back : ∀ {j : Nat} {x : σ}, (fs ++ [t])[j]? = some x → j ≤ i → fs[j]? = some x := fun {j x} hx hj => by rwa [List.getElem?_append_left (by omega)] at hx
  refine ⟨get_keep h.z _, fun j j' x x' hx hx' hk => ?_, fun x hx => ?_, fun j q v' e' t' hv' hq hc => ?_, h.up.push (h.less hv hu he _), fun x hx => ?_, fun m h1 h2 => ?_⟩
  · rcases getElem?_snoc hx with g | ⟨g, rfl⟩ <;> rcases getElem?_snoc hx' with g' | ⟨g', rfl⟩
    · exact h.nd j j' x x' g g' hk
    · exact absurd hk (hn x (List.mem_of_getElem? g))
    · exact absurd hk.symm (hn x' (List.mem_of_getElem? g'))
    · omega
  · rcases List.mem_append.1 hx with g | g
    · obtain ⟨j, d, a, b, c, h1, h2, h3, h4, h5, h6⟩ := h.so x g
      exact ⟨j, d, a, b, c, h1, h2, get_keep h3 _, h4, get_keep h5 _, h6⟩
    · simp at g; subst g
      exact ⟨i, fs.length, v, t, t, rfl, rfl, get_keep hv _, List.mem_of_getElem? he, by simp, rfl⟩
  · have hv2 := back hv' (by omega)
    by_cases hold : j < i ∨ j = i ∧ q < k
    · obtain ⟨d', u', h1, h2, h3⟩ := h.co j q v' e' t' hv2 hq hold
      exact ⟨d', u', List.mem_append_left _ h1, get_keep h2 _, h3⟩
    · obtain ⟨rfl, rfl⟩ : j = i ∧ q = k := by omega
      rw [hv] at hv2; cases hv2
      rw [he] at hq; cases hq
      exact ⟨fs.length, t, by simp, by simp, rfl⟩
  · rcases List.mem_append.1 hx with g | g
    · rcases h.be x g with k1 | ⟨k1, v', h2, q, t', h3, h4⟩
      · exact .inl k1
      · exact .inr ⟨k1, v', get_keep h2 _, q, t', by omega, h4⟩
    · simp at g; subst g
      exact .inr ⟨rfl, v, get_keep hv _, k, t, by omega, he⟩
  · simp only [List.length_append, List.length_cons, List.length_nil] at h2
    by_cases e' : m < fs.length
    · obtain ⟨p, x, hf⟩ := h.fe m h1 e'
      exact ⟨p, x, hf.snoc _⟩
    · obtain rfl : m = fs.length := by omega
      refine ⟨ed.length, ⟨i, e, fs.length⟩, by simp, rfl, by simp only; omega, fun q y hq hy => ?_⟩
      rw [List.getElem?_append_left hq] at hy
      exact (h.dlt y (List.mem_of_getElem? hy)).2.2.2

/-- Where a word leads in the system. -/
def stepS (out : σ → List (Int × σ)) (v : σ) (e : Int) : Option σ := ((out v).find? fun x => decide (x.1 = e)).map (·.2)
def runS (out : σ → List (Int × σ)) : σ → List Int → Option σ
  | v, [] => some v
  | v, e :: r => match stepS out v e with
    | some u => runS out u r
    | none => none
theorem stepS_some {v u : σ} {e : Int} (h : stepS out v e = some u) : (e, u) ∈ out v := by
  unfold stepS at h
  obtain ⟨x, hx, rfl⟩ := Option.map_eq_some_iff.1 h
  have h1 := List.mem_of_find?_eq_some hx
  have h2 := List.find?_some hx
  simp at h2
  rw [← h2]; exact h1
theorem stepS_none {v : σ} {e : Int} (h : stepS out v e = none) : ∀ u, ¬ (e, u) ∈ out v := by
  unfold stepS at h
  simp only [Option.map_eq_none_iff, List.find?_eq_none, decide_eq_true_eq] at h
  exact fun u hu => h _ hu rfl
theorem Ups.uniq {l : List (Int × σ)} (h : Ups l) {e : Int} {t u : σ} (ht : (e, t) ∈ l) (hu : (e, u) ∈ l) : t = u := by
  obtain ⟨p, hp, hpt⟩ := List.mem_iff_getElem.1 ht
  obtain ⟨q, hq, hqu⟩ := List.mem_iff_getElem.1 hu
  have h1 : l[p]? = some (e, t) := by rw [List.getElem?_eq_getElem hp, hpt]
  have h2 : l[q]? = some (e, u) := by rw [List.getElem?_eq_getElem hq, hqu]
  rcases Nat.lt_trichotomy p q with g | g | g
  · have := h p q _ _ g h1 h2; simp at this
  · subst g; rw [h1] at h2; cases h2; rfl
  · have := h q p _ _ g h2 h1; simp at this
theorem stepS_mem {v u : σ} {e : Int} (hu : Ups (out v)) (h : (e, u) ∈ out v) : stepS out v e = some u := by
  cases hs : stepS out v e with
  | none => exact absurd h (stepS_none hs u)
  | some t => rw [hu.uniq (stepS_some hs) h]
theorem runS_snoc (out : σ → List (Int × σ)) : ∀ (w : List Int) (v : σ) (e : Int), runS out v (w ++ [e]) = (runS out v w).bind fun u => stepS out u e
  | [], v, e => by
    simp only [List.nil_append, runS, Option.bind_some]
    cases stepS out v e <;> rfl
  | x :: r, v, e => by
    simp only [List.cons_append, runS]
    cases stepS out v x with
    | none => rfl
    | some u => exact runS_snoc out r u e

/-- States with one key go on alike. -/
structure Cong (P : σ → Prop) (key : σ → κ) (out : σ → List (Int × σ)) : Prop where
  go : ∀ v, P v → ∀ e t, (e, t) ∈ out v → P t
  eq : ∀ v v', P v → P v' → key v = key v' → ∀ e t, (e, t) ∈ out v → ∃ t', (e, t') ∈ out v' ∧ key t' = key t
  up : ∀ v, P v → Ups (out v)
/-- All is built. -/
structure Built (key : σ → κ) (out : σ → List (Int × σ)) (s0 : σ) (a : Au) (fs : List σ) : Prop where
  n : a.n = fs.length
  z : fs[0]? = some s0
  nd : ∀ (j j' : Nat) v v', fs[j]? = some v → fs[j']? = some v' → key v = key v' → j = j'
  rt : a.Right
  num : Num a.ed a.n
  step : ∀ (j : Nat) v, fs[j]? = some v → ∀ e, (nextV a.ed j e = -1 ∧ stepS out v e = none) ∨ ∃ (d : Nat) (u t : σ), nextV a.ed j e = d ∧ fs[d]? = some u ∧ stepS out v e = some t ∧ key u = key t
theorem Bld.built {i k : Nat} {fs : List σ} {ed : List Ed} (h : Bld key out s0 i k fs ed) (hi : fs.length ≤ i) (al mr : List Int) (hal : setOk al 32 al.length) (hn : fs.length ≤ 4096) (hmr : setOk mr fs.length mr.length) (hev : ∀ v, v ∈ fs → ∀ x, x ∈ out v → x.1 ∈ al) (hup : ∀ v, v ∈ fs → Ups (out v)) :
    Built key out s0 ⟨al, fs.length, mr, ed⟩ fs := by
  have hr : (⟨al, fs.length, mr, ed⟩ : Au).Right := by
    refine ⟨hal, Int.natCast_nonneg _, by show ((fs.length : Nat) : Int) ≤ 4096; omega, hmr, fun p hp x hx => ?_⟩
    have hm := List.mem_of_getElem? hx
    have hd := h.dlt x hm
    obtain ⟨j, d, v, t, u, h1, h2, h3, h4, _⟩ := h.so x hm
    refine ⟨hd.1, hd.2.1, hd.2.2.1, hd.2.2.2, hev v (List.mem_of_getElem? h3) _ h4, fun y hy hyx => ?_⟩
    exact h.up (p - 1) p y x (by omega) hyx hx
  refine ⟨rfl, h.z, h.nd, hr, fun t h1 h2 => h.fe t h1 (by simp only at h2; omega), fun j v hv e => ?_⟩
  have hj := (List.getElem?_eq_some_iff.1 hv).1
  have hU := hup v (List.mem_of_getElem? hv)
  rcases hr.next_cases j e with g | ⟨g0, g1, x, hx, x1, x2, x3⟩
  · refine .inl ⟨g, ?_⟩
    cases hs : stepS out v e with
    | none => rfl
    | some t =>
      obtain ⟨q, hq, hqt⟩ := List.mem_iff_getElem.1 (stepS_some hs)
      obtain ⟨d, u, h1, h2, h3⟩ := h.co j q v e t hv (by rw [List.getElem?_eq_getElem hq, hqt]) (.inl (by omega))
      obtain ⟨p, hp, hpx⟩ := List.mem_iff_getElem.1 h1
      have := hr.nextE (p := p) (x := ⟨j, e, d⟩) (by rw [List.getElem?_eq_getElem hp, hpx])
      simp only at this g
      omega
  · obtain ⟨j', d, v', t, u, h1, h2, h3, h4, h5, h6⟩ := h.so x hx
    obtain rfl : j' = j := by omega
    rw [hv] at h3; cases h3
    rw [x2] at h4
    exact .inr ⟨d, u, t, by rw [← x3, h2], h5, stepS_mem hU h4, h6⟩
theorem Built.run {a : Au} {fs : List σ} {P : σ → Prop} (h : Built key out s0 a fs) (hc : Cong P key out) (h0 : P s0) (hfs : ∀ v, v ∈ fs → P v) (w : List Int) : (rn a w = -1 ∧ runS out s0 w = none) ∨ ∃ (d : Nat) (u t : σ), rn a w = d ∧ fs[d]? = some u ∧ runS out s0 w = some t ∧ key u = key t ∧ P t := by
  have hz := (List.getElem?_eq_some_iff.1 h.z).1
  have hst : a.st = 0 := by unfold Au.st; rw [if_neg (by rw [h.n]; omega)]
  refine snoc_ind (P := fun w => (rn a w = -1 ∧ runS out s0 w = none) ∨ ∃ (d : Nat) (u t : σ), rn a w = d ∧ fs[d]? = some u ∧ runS out s0 w = some t ∧ key u = key t ∧ P t) ?_ ?_ w
  · exact .inr ⟨0, s0, s0, hst, h.z, rfl, rfl, h0⟩
  · rintro u e (⟨g1, g2⟩ | ⟨d, v, t, g1, g2, g3, g4, g5⟩)
    · refine .inl ⟨?_, by rw [runS_snoc, g2]; rfl⟩
      rw [rn_app, g1, runV_neg _ (by omega)]
    · have pv := hfs v (List.mem_of_getElem? g2)
      rw [rn_snoc a u e (by omega), g1, runS_snoc, g3]
      simp only [Option.bind_some]
      rcases h.step d v g2 e with ⟨k1, k2⟩ | ⟨d', u', t', k1, k2, k3, k4⟩
      · refine .inl ⟨k1, ?_⟩
        cases hs : stepS out t e with
        | none => rfl
        | some x =>
          obtain ⟨x', hx', _⟩ := hc.eq t v g5 pv g4.symm e x (stepS_some hs)
          exact absurd hx' (stepS_none k2 x')
      · obtain ⟨x, hx, hxk⟩ := hc.eq v t pv g5 g4 e t' (stepS_some k3)
        exact .inr ⟨d', u', x, k1, k2, stepS_mem (hc.up t g5) hx, k4.trans hxk.symm, hc.go t g5 e x hx⟩
end
end Go.Proofs.YtkifgffhoenaoaaDoor

namespace Go.Proofs.YtkifgffhoenaoaaDoor
set_option linter.unusedSimpArgs false
set_option linter.unusedVariables false

/-- How many edges begin before a state. -/
def firstV (ed : List Ed) (s : Nat) : Nat := (ed.filter fun x => decide (x.src < (s : Int))).length
def predsV (ed : List Ed) (s : Int) : List Int := (ed.filter fun x => decide (x.dst = s)).map (·.src)

theorem getD_lt {α : Type} {l : List α} {i : Nat} (d : α) (h : i < l.length) : l.getD i d = l[i] := by rw [List.getD_eq_getElem?_getD, List.getElem?_eq_getElem h]; rfl
theorem getD_ge {α : Type} {l : List α} {i : Nat} (d : α) (h : l.length ≤ i) : l.getD i d = d := by rw [List.getD_eq_getElem?_getD, List.getElem?_eq_none h]; rfl

/-- How many are less than 0. -/
def negs (l : List Int) : Nat := (l.filter fun x => decide (x < 0)).length
theorem negs_set : ∀ {l : List Int} {p : Nat} {x d : Int}, l[p]? = some x → x < 0 → 0 ≤ d → negs (l.set p d) + 1 = negs l
  | [], p, x, d, h, _, _ => by simp at h
  | a :: l, 0, x, d, h, hx, hd => by
    simp at h; subst h
    simp [negs, hx, show ¬ d < 0 by omega]
  | a :: l, p + 1, x, d, h, hx, hd => by
    have ih := negs_set (l := l) (p := p) (x := x) (d := d) (by simpa using h) hx hd
    simp only [negs, List.set_cons_succ, List.filter_cons] at ih ⊢
    split <;> simp_all <;> omega

/-- The states that lead to one of distance d: those not seen are noted, and wait. -/
def bkIn (d : Int) : List Int → List Int → List Int → List Int × List Int
  | [], out, q => (out, q)
  | p :: ps, out, q => if out.getD p.toNat 0 < 0 then bkIn d ps (out.set p.toNat (d + 1)) (q ++ [p]) else bkIn d ps out q
def bkGo (ed : List Ed) : Nat → List Int → List Int → List Int
  | 0, out, _ => out
  | f + 1, out, [] => out
  | f + 1, out, s :: q => bkGo ed f (bkIn (out.getD s.toNat 0) (predsV ed s) out q).1 (bkIn (out.getD s.toNat 0) (predsV ed s) out q).2
def bkMu (out q : List Int) : Nat := negs out + q.length
/-- All -1, then 0 at some. -/
def bkStart (n : Nat) (to : List Int) : List Int := to.foldl (fun out s => out.set s.toNat 0) (List.replicate n (-1))
def backV (ed : List Ed) (n : Nat) (to : List Int) : List Int := bkGo ed (bkMu (bkStart n to) to) (bkStart n to) to

theorem bkIn_len (d : Int) : ∀ (ps out q : List Int), (bkIn d ps out q).1.length = out.length
  | [], _, _ => rfl
  | p :: ps, out, q => by
    unfold bkIn
    split
    · rw [bkIn_len d ps]; simp
    · exact bkIn_len d ps out q
theorem bkIn_mu (d : Int) (hd : 0 ≤ d) : ∀ (ps out q : List Int), bkMu (bkIn d ps out q).1 (bkIn d ps out q).2 = bkMu out q
  | [], _, _ => rfl
  | p :: ps, out, q => by
    unfold bkIn
    split
    · rename_i h
      rw [bkIn_mu d hd ps]
      have hlt : p.toNat < out.length := by
        rcases Nat.lt_or_ge p.toNat out.length with k | k
        · exact k
        · rw [getD_ge _ k] at h; omega
      have hx : out[p.toNat]? = some (out.getD p.toNat 0) := by rw [getD_lt _ hlt, List.getElem?_eq_getElem hlt]
      have := negs_set (d := d + 1) hx h (by omega)
      simp only [bkMu, List.length_append, List.length_cons, List.length_nil]
      omega
    · exact bkIn_mu d hd ps out q
theorem bkIn_nonneg (d : Int) (hd : 0 ≤ d) : ∀ (ps out q : List Int), (∀ s, s ∈ q → 0 ≤ out.getD s.toNat (-1)) → (∀ s, s ∈ (bkIn d ps out q).2 → 0 ≤ (bkIn d ps out q).1.getD s.toNat (-1))
  | [], _, _, h => h
  | p :: ps, out, q, h => by
    unfold bkIn
    split
    · rename_i hp
      have hlt : p.toNat < out.length := by
        rcases Nat.lt_or_ge p.toNat out.length with k | k
        · exact k
        · rw [getD_ge _ k] at hp; omega
      refine bkIn_nonneg d hd ps _ _ fun s hs => ?_
      rcases List.mem_append.1 hs with g | g
      · have := h s g
        by_cases e : p.toNat = s.toNat
        · rw [← e, getD_lt _ (by simpa using hlt), List.getElem_set_self]; omega
        · rw [List.getD_eq_getElem?_getD, List.getElem?_set_ne e, ← List.getD_eq_getElem?_getD]; exact this
      · simp at g; subst g
        rw [getD_lt _ (by simpa using hlt), List.getElem_set_self]; omega
    · exact bkIn_nonneg d hd ps out q h

/-- A step of a search: the state, the step before, the event. -/
structure Stp where
  st : Int
  fr : Int
  ev : Int
deriving DecidableEq
def Stp.cells (x : Stp) : List Value := [.int .i64 x.st, .int .i64 x.fr, .int .i64 x.ev]
def ptIn (per : Ed → Bool) (i : Int) : List Ed → List Bool → List Stp → List Bool × List Stp
  | [], seen, st => (seen, st)
  | x :: xs, seen, st => if seen.getD x.dst.toNat true = false ∧ per x = true then ptIn per i xs (seen.set x.dst.toNat true) (st ++ [⟨x.dst, i, x.ev⟩]) else ptIn per i xs seen st
/-- The events on the way back from a step. -/
def wayV (st : List Stp) : Nat → Int → List Int → List Int
  | 0, _, acc => acc
  | f + 1, k, acc => match st[k.toNat]? with
    | some x => if 0 ≤ x.fr then wayV st f x.fr (x.ev :: acc) else acc
    | none => acc
def ptGo (want : Int → Bool) (per : Ed → Bool) (ed : List Ed) : Nat → Nat → List Bool → List Stp → Option (List Int)
  | 0, _, _, _ => none
  | f + 1, i, seen, st => match st[i]? with
    | none => none
    | some s => if want s.st = true then some (wayV st (i + 1) i []) else ptGo want per ed f (i + 1) (ptIn per i (ed.filter fun x => decide (x.src = s.st)) seen st).1 (ptIn per i (ed.filter fun x => decide (x.src = s.st)) seen st).2
def ptMu (seen : List Bool) (st : List Stp) (i : Nat) : Nat := (seen.filter fun b => !b).length + (st.length - i)
def pathV (want : Int → Bool) (per : Ed → Bool) (ed : List Ed) (n : Nat) (from_ : Int) : Option (List Int) := ptGo want per ed (n + 1) 0 ((List.replicate n false).set from_.toNat true) [⟨from_, -1, -1⟩]
end Go.Proofs.YtkifgffhoenaoaaDoor

