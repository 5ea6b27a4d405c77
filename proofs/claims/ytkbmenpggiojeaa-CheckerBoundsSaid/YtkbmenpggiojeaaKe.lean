/-
  The library's functions that take a function value, over edges and over numbers.
-/
import Derived.Test.YtkbmenpggiojeaaKc
import Derived.Shelf.Abstract
namespace Go.Proofs.Ytkbmenpggiojeaa
open Go.RowKit
set_option linter.unusedSimpArgs false
set_option linter.unusedVariables false

def PredOn {α : Type} (P : Program) (g : Nat) (lb : Array Value) (enc : α → Value) (p : α → Prop) (l : List α) (w : World) : Prop :=
  ∀ (W : World) (x : α), x ∈ l → Below w.heap.size w W → Calls P g (#[enc x] ++ lb) W (Tells (p x) W)

def Indexes {α : Type} (p : α → Prop) (l : List α) (w : World) (e : Ending) (w' : World) : Prop :=
  ∃ r : Int, e = .returned (.int .i64 r) ∧ (r = -1 ∧ (∀ x, x ∈ l → ¬ p x) ∨ ∃ k x, r = (k : Nat) ∧ l[k]? = some x ∧ p x ∧ ∀ j y, j < k → l[j]? = some y → ¬ p y) ∧ Below w.heap.size w w'

def Ed.enc (x : Ed) : Value := .agg #[.int .i64 x.src, .int .i64 x.ev, .int .i64 x.dst]

set_option maxHeartbeats 400000 in
theorem indexE_c (g : Nat) (lb : Array Value) (eg : ∀ args w, (callFunc g args).run Try.prog w = .ok (.enter g args) w) (p : Ed → Prop) (A : Option Addr) (c : Nat) (l : List Ed) (w : World)
    (hA : EdsAt w A l) (hl : l.length ≤ 140737488355328) (hp : PredOn Try.prog g lb Ed.enc p l w) :
    Calls Try.prog 91 #[.slice A l.length c, .func (.func g) #[] lb] w (Indexes p l w) := by
  have HA := Lib.hid hA; clear hA
  have HP := Lib.hid hp; clear hp
  go_enter Try.func91, Try.ntmps91
  go_wp2
  go_loopw [8] (fun i wr => ∃ k : Nat, k ≤ l.length ∧ i = .int .i64 k ∧ Hid (Below w.heap.size w wr) ∧ Hid (∀ j y, j < k → l[j]? = some y → ¬ p y)) (fun i _ => l.length - (intOf i).toNat)
  case atStart => exact ⟨0, by omega, rfl, Below.refl _ _, fun j y h => absurd h (by omega)⟩
  case round =>
    obtain ⟨k, hk, rfl, BW, HN⟩ := hrel
    by_cases hlt : k < l.length
    · obtain ⟨b, off, x, rfl, hb, hx, e0, e1, e2⟩ := EdsAt.at (HA.out.below EdE.stays BW.out) hlt
      have hm : x ∈ l := List.mem_of_getElem? hx
      have hc := Lib.hid (HP.out wr x hm BW.out)
      obtain ⟨src, ev, dst⟩ := x
      dsimp only [Ed.enc] at e0 e1 e2 hc
      clear hm
      go_wp2_with fail
      refine hc.out.mono ?_
      intro e w1 hs
      rcases hs.yes1 with ⟨rfl, S, hb1⟩ | ⟨rfl, S, hb1⟩
      · go_wp2
        go_ret
        exact ⟨k, rfl, .inr ⟨k, _, rfl, hx, S.out, HN.out⟩, BW.out.trans (hb1.mono BW.out.size)⟩
      · go_wp2
        go_roundw
        case rel => exact ⟨k + 1, by omega, by go_num, BW.out.trans (hb1.mono BW.out.size), fun j y hj hy => by
          by_cases h : j = k
          · subst h; rw [hx] at hy; cases hy; exact S.out
          · exact HN.out j y (by omega) hy⟩
        case measure => simp [intOf]; omega
    · obtain rfl : k = l.length := by omega
      go_wp2
      go_ret
      refine ⟨-1, rfl, .inl ⟨rfl, fun x hx => ?_⟩, BW.out⟩
      obtain ⟨j, hj, rfl⟩ := List.mem_iff_getElem.1 hx
      exact HN.out j _ hj (List.getElem?_eq_getElem hj)

theorem Indexes.some_iff {α : Type} {p : α → Prop} {l : List α} {r : Int} (h : r = -1 ∧ (∀ x, x ∈ l → ¬ p x) ∨ ∃ k x, r = (k : Nat) ∧ l[k]? = some x ∧ p x ∧ ∀ j y, j < k → l[j]? = some y → ¬ p y) : 0 ≤ r ↔ ∃ x, x ∈ l ∧ p x := by
  rcases h with ⟨rfl, h⟩ | ⟨k, x, rfl, hx, hp, _⟩
  · exact ⟨fun h => absurd h (by omega), fun ⟨x, hx, hp⟩ => absurd hp (h x hx)⟩
  · exact ⟨fun _ => ⟨x, List.mem_of_getElem? hx, hp⟩, fun _ => by omega⟩

set_option maxHeartbeats 400000 in
theorem containsE_c (g : Nat) (lb : Array Value) (eg : ∀ args w, (callFunc g args).run Try.prog w = .ok (.enter g args) w) (p : Ed → Prop) (A : Option Addr) (c : Nat) (l : List Ed) (w : World)
    (hA : EdsAt w A l) (hl : l.length ≤ 140737488355328) (hp : PredOn Try.prog g lb Ed.enc p l w) :
    Calls Try.prog 61 #[.slice A l.length c, .func (.func g) #[] lb] w (Tells (∃ x, x ∈ l ∧ p x) w) := by
  have HC := Lib.hid (indexE_c g lb eg p A c l w hA hl hp)
  clear hA hp
  go_enter Try.func61, Try.ntmps61
  go_wp2_with (go_at_call 91; refine HC.out.mono ?_; rintro e w' ⟨r, rfl, hr, hb⟩; have HR := Lib.hid hr; clear hr)
  go_ret
  exact ⟨_, rfl, by rw [decide_eq_true_eq]; exact Indexes.some_iff HR.out, hb⟩
set_option maxHeartbeats 400000 in
theorem indexI_c (g : Nat) (lb : Array Value) (eg : ∀ args w, (callFunc g args).run Try.prog w = .ok (.enter g args) w) (p : Int → Prop) (A : Option Addr) (c : Nat) (l : List Int) (w : World)
    (hA : IntsAt w A l) (hl : l.length ≤ 140737488355328) (hp : PredOn Try.prog g lb (Value.int .i64) p l w) :
    Calls Try.prog 89 #[.slice A l.length c, .func (.func g) #[] lb] w (Indexes p l w) := by
  have HA := Lib.hid hA; clear hA
  have HP := Lib.hid hp; clear hp
  go_enter Try.func89, Try.ntmps89
  go_wp2
  go_loopw [8] (fun i wr => ∃ k : Nat, k ≤ l.length ∧ i = .int .i64 k ∧ Hid (Below w.heap.size w wr) ∧ Hid (∀ j y, j < k → l[j]? = some y → ¬ p y)) (fun i _ => l.length - (intOf i).toNat)
  case atStart => exact ⟨0, by omega, rfl, Below.refl _ _, fun j y h => absurd h (by omega)⟩
  case round =>
    obtain ⟨k, hk, rfl, BW, HN⟩ := hrel
    by_cases hlt : k < l.length
    · obtain ⟨b, off, x, rfl, hb, hx, e0⟩ := IntsAt.at (HA.out.below IntE.stays BW.out) hlt
      have hm : x ∈ l := List.mem_of_getElem? hx
      have hc := Lib.hid (HP.out wr x hm BW.out)
      clear hm
      go_wp2_with fail
      refine hc.out.mono ?_
      intro e w1 hs
      rcases hs.yes1 with ⟨rfl, S, hb1⟩ | ⟨rfl, S, hb1⟩
      · go_wp2
        go_ret
        exact ⟨k, rfl, .inr ⟨k, _, rfl, hx, S.out, HN.out⟩, BW.out.trans (hb1.mono BW.out.size)⟩
      · go_wp2
        go_roundw
        case rel => exact ⟨k + 1, by omega, by go_num, BW.out.trans (hb1.mono BW.out.size), fun j y hj hy => by
          by_cases h : j = k
          · subst h; rw [hx] at hy; cases hy; exact S.out
          · exact HN.out j y (by omega) hy⟩
        case measure => simp [intOf]; omega
    · obtain rfl : k = l.length := by omega
      go_wp2
      go_ret
      refine ⟨-1, rfl, .inl ⟨rfl, fun x hx => ?_⟩, BW.out⟩
      obtain ⟨j, hj, rfl⟩ := List.mem_iff_getElem.1 hx
      exact HN.out j _ hj (List.getElem?_eq_getElem hj)

set_option maxHeartbeats 400000 in
theorem containsI_c (g : Nat) (lb : Array Value) (eg : ∀ args w, (callFunc g args).run Try.prog w = .ok (.enter g args) w) (p : Int → Prop) (A : Option Addr) (c : Nat) (l : List Int) (w : World)
    (hA : IntsAt w A l) (hl : l.length ≤ 140737488355328) (hp : PredOn Try.prog g lb (Value.int .i64) p l w) :
    Calls Try.prog 55 #[.slice A l.length c, .func (.func g) #[] lb] w (Tells (∃ x, x ∈ l ∧ p x) w) := by
  have HC := Lib.hid (indexI_c g lb eg p A c l w hA hl hp)
  clear hA hp
  go_enter Try.func55, Try.ntmps55
  go_wp2_with (go_at_call 89; refine HC.out.mono ?_; rintro e w' ⟨r, rfl, hr, hb⟩; have HR := Lib.hid hr; clear hr)
  go_ret
  exact ⟨_, rfl, by rw [decide_eq_true_eq]; exact Indexes.some_iff HR.out, hb⟩
end Go.Proofs.Ytkbmenpggiojeaa
