/-
  The checker's lassos: a fault in a word; equal lists; copies of lists.
-/
import Derived.Test.YtkbmenpggiojeaaKe
import Derived.Test.YtkbmenpggiojeaaKo
import Derived.Test.YtkbmenpggiojeaaLc
import Derived.Lib.SliceRun
namespace Go.Proofs.Ytkbmenpggiojeaa
open Go.RowKit
set_option linter.unusedSimpArgs false
set_option linter.unusedVariables false

/-- All numbers of a word are events of a list. -/
def InEvs (evs : List Ev) (l : List Int) : Prop := ∀ x, x ∈ l → 0 ≤ x ∧ x < evs.length

set_option maxHeartbeats 400000 in
theorem faulty1_c (b1 b2 : Nat) (AE : Option Addr) (cE : Nat) (evs : List Ev) (class_ : Int) (t : Nat) (w : World)
    (h1 : w.cell? ⟨b1, 0, none⟩ = some (.slice AE evs.length cE)) (hE : EvsAt w AE evs) (ht : t < evs.length) (h2 : w.cell? ⟨b2, 0, none⟩ = some (.int .i64 class_)) (lev : evs.length ≤ 140737488355328) :
    Calls Try.prog 77 #[.int .i64 t, .pointer (some ⟨b1, 0, none⟩), .pointer (some ⟨b2, 0, none⟩)] w (Tells ((evAt evs t).fault = class_) w) := by
  obtain ⟨z, hz⟩ : ∃ z, evs[t]? = some z := ⟨_, List.getElem?_eq_getElem ht⟩
  obtain ⟨be, oe, rfl, hbe, g2, g4⟩ := EvsAt.get hE hz
  have HZ := Lib.hid hz
  clear hE hz
  go_enter Try.func77, Try.ntmps77
  go_wp2_with fail
  go_quiet (fail)
  go_wp2
  go_ret
  exact ⟨_, rfl, by rw [evAt_get HZ.out]; simp, (Below.refl _ _).draws _⟩

set_option maxHeartbeats 400000 in
theorem alike1_c (b1 : Nat) (AE : Option Addr) (cE : Nat) (evs : List Ev) (t : Nat) (w : World)
    (h1 : w.cell? ⟨b1, 0, none⟩ = some (.slice AE evs.length cE)) (hE : EvsAt w AE evs) (ht : t < evs.length) (lev : evs.length ≤ 140737488355328) :
    Calls Try.prog 81 #[.int .i64 t, .pointer (some ⟨b1, 0, none⟩)] w (Tells ((evAt evs t).obs = false) w) := by
  obtain ⟨z, hz⟩ : ∃ z, evs[t]? = some z := ⟨_, List.getElem?_eq_getElem ht⟩
  obtain ⟨be, oe, rfl, hbe, g2, g4⟩ := EvsAt.get hE hz
  have HZ := Lib.hid hz
  clear hE hz
  go_enter Try.func81, Try.ntmps81
  go_wp2_with fail
  go_ret
  exact ⟨_, rfl, by rw [evAt_get HZ.out]; cases z.obs <;> simp, Below.refl _ _⟩

/-- A fault of the class occurs in the word. -/
def faultyP (evs : List Ev) (class_ : Int) (l : List Int) : Prop := ∃ x, x ∈ l ∧ (evAt evs x).fault = class_

theorem size_alloc' (w : World) (o : Obj) : (w.alloc o).heap.size = w.heap.size + 1 := by simp

set_option maxHeartbeats 400000 in
theorem faulty_c (AE : Option Addr) (cE : Nat) (evs : List Ev) (class_ : Int) (A : Option Addr) (c : Nat) (l : List Int) (w : World)
    (hE : EvsAt w AE evs) (lev : evs.length ≤ 140737488355328) (hA : IntsAt w A l) (ll : l.length ≤ 140737488355328) (hl : InEvs evs l) :
    Calls Try.prog 44 #[.slice AE evs.length cE, .int .i64 class_, .slice A l.length c] w (Tells (faultyP evs class_ l) w) := by
  have HB := Lib.hid (((Below.new w (.cells #[.slice AE evs.length cE] 35)).alloc (by simp) (.cells #[.int .i64 class_] 3)))
  have HC := Lib.hid (containsI_c 77 #[.pointer (some ⟨w.heap.size, 0, none⟩), .pointer (some ⟨w.heap.size + 1, 0, none⟩)] (enters_of Try.func77 (by kernel_rfl) rfl) (fun x => (evAt evs x).fault = class_) A c l
    ((w.alloc (.cells #[.slice AE evs.length cE] 35)).alloc (.cells #[.int .i64 class_] 3)) (hA.below IntE.stays HB.out) ll (by
      intro W x hx hb
      obtain ⟨h0, h1⟩ := hl x hx
      obtain ⟨t, rfl⟩ := Int.eq_ofNat_of_zero_le h0
      refine faulty1_c _ _ AE cE evs class_ t W ?_ (hE.below EvE.stays (HB.out.trans (hb.mono HB.out.size))) (by omega) ?_ lev
      · exact old_cell hb (old_cell (Below.new _ _) (new_cell w _ [_] _ 0 rfl) (by simp)) (by simp; omega)
      · have := new_cell (w.alloc (.cells #[.slice AE evs.length cE] 35)) 3 [.int .i64 class_] _ 0 rfl
        simp only [size_alloc'] at this
        exact old_cell hb this (by simp)))
  clear hE hA hl
  go_enter Try.func44, Try.ntmps44
  go_wp2_with fail
  refine HC.out.mono ?_
  rintro e w1 ⟨r, rfl, hr, hb⟩
  have HR := Lib.hid hr
  clear hr
  go_wp2
  go_ret
  exact ⟨r, rfl, HR.out, HB.out.trans (hb.mono HB.out.size)⟩

set_option maxHeartbeats 400000 in
theorem equalI_c (A1 A2 : Option Addr) (c1 c2 : Nat) (l1 l2 : List Int) (w : World) (h1 : IntsAt w A1 l1) (h2 : IntsAt w A2 l2) (n1 : l1.length ≤ 140737488355328) (n2 : l2.length ≤ 140737488355328) :
    Calls Try.prog 70 #[.slice A1 l1.length c1, .slice A2 l2.length c2] w (Tells (l1 = l2) w) := by
  have H1 := Lib.hid h1
  have H2 := Lib.hid h2
  clear h1 h2
  by_cases hl : l1.length = l2.length
  · go_enter Try.func70, Try.ntmps70
    have HL := Lib.hid hl
    rw [← hl]
    clear hl n2
    go_wp2
    go_loopw [13] (fun i wr => ∃ k : Nat, k ≤ l1.length ∧ i = .int .i64 k ∧ Hid (Below w.heap.size w wr) ∧ Hid (l1.take k = l2.take k)) (fun i _ => l1.length - (intOf i).toNat)
    case atStart => exact ⟨0, by omega, rfl, Below.refl _ _, rfl⟩
    case round =>
      obtain ⟨k, hk, rfl, BW, HN⟩ := hrel
      by_cases hlt : k < l1.length
      · obtain ⟨b, off, x, rfl, hb, hx, e0⟩ := IntsAt.at (H1.out.below IntE.stays BW.out) hlt
        obtain ⟨b2, off2, y, rfl, hb2, hy, g0⟩ := IntsAt.at (H2.out.below IntE.stays BW.out) (HL.out ▸ hlt)
        have HX := Lib.hid hx
        have HY := Lib.hid hy
        clear hx hy
        by_cases hxy : x = y
        · subst hxy
          go_wp2_with fail
          go_quiet (fail)
          go_wp2
          go_roundw
          case rel => exact ⟨k + 1, by omega, by go_num, BW.out.draws _, Lib.hid (by rw [List.take_add_one, List.take_add_one, HN.out, HX.out, HY.out])⟩
          case measure => simp [intOf]; omega
        · have hne : (x == y) = false := by simpa using hxy
          go_wp2_with fail
          go_quiet (fail)
          go_wp2
          go_ret
          exact Tells.no (fun h => by subst h; have := HX.out; rw [HY.out] at this; cases this; exact hxy rfl) (BW.out.draws _)
      · obtain rfl : k = l1.length := by omega
        go_wp2
        go_ret
        exact Tells.yes (by have := HN.out; rw [List.take_length, HL.out, List.take_length] at this; exact this) BW.out
  · have hne : ((l1.length : Int) == (l2.length : Int)) = false := by rw [beq_eq_false_iff_ne]; omega
    go_enter Try.func70, Try.ntmps70
    go_wp2
    go_ret
    exact Tells.no (fun h => hl (by rw [h])) (Below.refl _ _)

/-- A list of the call's own, at the start of a block. -/
def OwnInts (B : Nat) (l : List Int) (v : Value) (w : World) : Prop := ∃ A c, v = .slice A l.length c ∧ (l = [] ∨ ∃ g cs, A = some ⟨g, 0, none⟩ ∧ B ≤ g ∧ BlkAt w g 3 cs ∧ l.length ≤ cs.length ∧ cs.take l.length = l.map (Value.int .i64) ∧ l.length ≤ c ∧ c = cs.length ∧ cs.length ≤ 9223372036854775807)
theorem OwnInts.of_own {w : World} {B n : Nat} {v : Value} {l : List Int} (h : w.ownsRow B 3 1 v n (l.map (Value.int .i64))) : OwnInts B l v w := by
  obtain ⟨h1, h2⟩ := h
  simp only [List.length_map, Nat.mul_one] at h1
  rcases h2 with ⟨rfl, rfl⟩ | ⟨g, cap, cur, rfl, hB, hg, hc, hm, hs, ht⟩
  · have : l = [] := List.length_eq_zero_iff.1 h1
    subst this
    exact ⟨none, 0, rfl, .inl rfl⟩
  · subst h1
    simp only [Nat.mul_one] at hs ht
    exact ⟨_, cap, rfl, .inr ⟨g, cur.toList, rfl, hB, by simpa [BlkAt] using hg, by simp; omega, ht, hc, by simp [hs], by simp [hs, maxLen] at hm ⊢; omega⟩⟩
theorem OwnInts.reads {w : World} {B : Nat} {l : List Int} {A : Option Addr} {c : Nat} (h : OwnInts B l (.slice A l.length c) w) : IntsAt w A l := by
  obtain ⟨A', c', hv, h⟩ := h
  cases hv
  rcases h with rfl | ⟨g, cs, rfl, _, hb, _, ht, _⟩
  · exact SlAt.nil
  · intro _
    refine ⟨g, 0, rfl, hb.lt, fun i x hx => ⟨[.int .i64 x], rfl, rfl, fun j v hj => ?_⟩⟩
    cases j with
    | succ j => simp at hj
    | zero =>
      simp at hj
      subst hj
      have : (cs.take l.length)[i]? = some (.int .i64 x) := by rw [ht, List.getElem?_map, hx]; rfl
      rw [List.getElem?_take] at this
      simp only [Nat.zero_add, Nat.mul_one, Nat.add_zero]
      rw [hb.cell]
      split at this
      · exact this
      · cases this

theorem IntsAt.cells {w : World} {a : Addr} {l : List Int} (h : IntsAt w (some a) l) : ∀ j u, (l.map (Value.int .i64))[j]? = some u → w.cell? (a.add j) = some u := by
  intro j u hj
  simp only [List.getElem?_map, Option.map_eq_some_iff] at hj
  obtain ⟨x, hx, rfl⟩ := hj
  obtain ⟨b, off, y, hA, _, hy, hc⟩ := IntsAt.at h (List.getElem?_eq_some_iff.1 hx).1
  cases hA
  rw [hx] at hy; cases hy
  unfold Addr.add
  split
  · rename_i h0; subst h0; exact hc
  · exact hc

/-- The contract of a function that gives a list of its own. -/
def Gives (l : List Int) (w : World) (e : Ending) (w' : World) : Prop := ∃ A c, e = .returned (.slice A l.length c) ∧ Hid (OwnInts w.heap.size l (.slice A l.length c) w') ∧ Below w.heap.size w w'

set_option maxRecDepth 100000 in
set_option maxHeartbeats 400000 in
theorem cloneI_c (A : Option Addr) (c : Nat) (l : List Int) (w : World) (h : IntsAt w A l) (n1 : l.length ≤ 1048576) (hn : A = none → l = []) :
    Calls Try.prog 80 #[.slice A l.length c] w (Gives l w) := by
  have q : ∀ (w : World), (binOp .eql 36 (.slice A l.length c) (.slice none 0 0)).run Try.prog w = .ok (.bool A.isNone) w := fun w => Lib.run_eql_slice_nil w _ _ A l.length c 0 0 Try.underlying36
  cases A with
  | none =>
    obtain rfl := hn rfl
    simp only [Option.isNone_none, List.length_nil] at q ⊢
    clear h hn
    go_enter Try.func80, Try.ntmps80
    go_wp2
    go_ret
    exact ⟨none, 0, rfl, ⟨none, 0, rfl, .inl rfl⟩, Below.refl _ _⟩
  | some a =>
    simp only [Option.isNone_some] at q
    have H := Lib.hid h
    clear h hn
    go_enter Try.func80, Try.ntmps80
    have hown : (w.alloc (.cells #[] 3)).ownsRow w.heap.size 3 1 (.slice (some ⟨w.heap.size, 0, none⟩) 0 0) 0 [] := ⟨rfl, .inr ⟨w.heap.size, 0, #[], rfl, Nat.le_refl _, heap_alloc_new w _, Nat.le_refl _, by simp, rfl, rfl⟩⟩
    obtain ⟨i0, hi0, hz0, hz1, hz2⟩ := info_parts (P := Try.prog) (e := 3) (z := .int .i64 0) (size := 1) (bytes := 8) (by kernel_rfl)
    go_wp2_with (at_builtin; refine wpList_append_own_at _ rfl _ _ 36 rfl w.heap.size 3 i0 (.int .i64 0) 1 8 Try.underlying36 hi0 hz0 hz1 hz2 rfl (by decide) _ _ _ rfl hown a l.length c (l.map (Value.int .i64)) rfl (by simp) (IntsAt.cells (H.out.below IntE.stays (Below.new _ _))) (by simp [Value.oneCell']) (by simp only [maxLen]; omega) (by omega) (by simp) ?_; intro v1 w1 ho1 hg1 _ hv1)
    obtain ⟨A1, c1, rfl⟩ := own_form ho1
    simp only [Nat.zero_add, List.nil_append] at ho1 ⊢
    go_wp2
    refine bodyPost_ret (v := .slice A1 l.length c1) (by simp [results, Try.results80, go_sem]) rfl ?_
    exact ⟨A1, c1, rfl, Lib.hid (OwnInts.of_own ho1), (Below.new w _).grown hg1 (by simp) (fun j hj => by cases hj; simp)⟩
end Go.Proofs.Ytkbmenpggiojeaa
