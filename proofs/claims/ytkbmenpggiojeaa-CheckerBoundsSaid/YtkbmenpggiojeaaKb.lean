/-
  The library's functions on slices of numbers, and the checker's own on sets.
-/
import Derived.Test.YtkbmenpggiojeaaProg
import Derived.Test.YtkbmenpggiojeaaKa
namespace Go.Proofs.Ytkbmenpggiojeaa
open Go.RowKit
set_option linter.unusedSimpArgs false
set_option linter.unusedVariables false

def setOk (l : List Int) (n : Int) (k : Nat) : Prop := ∀ i x, i < k → l[i]? = some x → 0 ≤ x ∧ x < n ∧ (∀ y, 0 < i → l[i-1]? = some y → y < x)

theorem setOk.step {l : List Int} {n : Int} {k : Nat} {x : Int} (h : setOk l n k) (hx : l[k]? = some x) (h0 : 0 ≤ x) (h1 : x < n) (h2 : ∀ y, 0 < k → l[k-1]? = some y → y < x) : setOk l n (k+1) := by
  intro i z hi hz
  by_cases e : i = k
  · subst e; rw [hx] at hz; cases hz; exact ⟨h0, h1, h2⟩
  · exact h i z (by omega) hz
theorem setOk.not1 {l : List Int} {n : Int} {k m : Nat} {x : Int} (hx : l[k]? = some x) (hm : k < m) (h : ¬ (0 ≤ x ∧ x < n)) : ¬ setOk l n m := fun hs => h ⟨(hs k x hm hx).1, (hs k x hm hx).2.1⟩
theorem setOk.not2 {l : List Int} {n : Int} {k m : Nat} {x y : Int} (hx : l[k]? = some x) (hm : k < m) (h0 : 0 < k) (hy : l[k-1]? = some y) (h : x ≤ y) : ¬ setOk l n m := fun hs => absurd ((hs k x hm hx).2.2 y h0 hy) (by omega)

set_option maxHeartbeats 400000 in
theorem set_c (A : Option Addr) (c : Nat) (l : List Int) (n : Int) (w : World) (h : IntsAt w A l) (hl : l.length ≤ maxLen) :
    Calls Try.prog 59 #[.slice A l.length c, .int .i64 n] w (Says (setOk l n l.length) w) := by
  unfold maxLen at hl
  go_enter Try.func59, Try.ntmps59
  go_wp2
  go_loop [5, 6, 9] (fun a b i => ∃ k : Nat, k ≤ l.length ∧ i = .int .i64 k ∧ Hid (setOk l n k)) (fun _ _ i => l.length - (intOf i).toNat)
  case atStart => exact ⟨0, by omega, rfl, fun i x h => absurd h (by omega)⟩
  case round =>
    obtain ⟨k, hk, rfl, hrel⟩ := hrel
    by_cases hlt : k < l.length
    · obtain ⟨b, off, x, rfl, _, hx, hcx⟩ := IntsAt.at h hlt
      by_cases hk0 : k = 0
      · subst hk0
        rw [Nat.add_zero] at hcx
        go_wp2
        any_goals (go_ret; exact Says.no (setOk.not1 hx hlt (by omega)) rfl)
        go_round
        case rel => exact ⟨1, by omega, by go_num, hrel.out.step hx (by omega) (by omega) (fun y h => absurd h (by omega))⟩
        case measure => simp [intOf]; omega
      · obtain ⟨y, hy, hcy⟩ := IntsAt.more h (k := k - 1) (by omega)
        go_wp2
        any_goals (go_ret; first | exact Says.no (setOk.not1 hx hlt (by omega)) rfl | exact Says.no (setOk.not2 hx hlt (by omega) hy (by omega)) rfl)
        go_round
        case rel => exact ⟨k+1, by omega, by go_num, hrel.out.step hx (by omega) (by omega) (fun z h hz => by rw [hy] at hz; cases hz; omega)⟩
        case measure => simp [intOf]; omega
    · obtain rfl : k = l.length := by omega
      go_wp2
      go_ret
      exact Says.yes hrel.out rfl

/-- The elements of an increasing list. -/
def incr (l : List Int) : Prop := ∀ (i j : Nat) (x y : Int), i < j → l[i]? = some x → l[j]? = some y → x < y
theorem setOk.incr {l : List Int} {n : Int} (h : setOk l n l.length) : incr l := by
  intro i j x y hij hx hy
  have hj : j < l.length := (List.getElem?_eq_some_iff.1 hy).1
  induction j generalizing y with
  | zero => omega
  | succ j ih =>
    have hz : l[j]? = some l[j] := List.getElem?_eq_getElem (by omega)
    have h1 := (h (j+1) y hj hy).2.2 l[j] (by omega) hz
    by_cases e : i = j
    · subst e; rw [hx] at hz; cases hz; exact h1
    · have := ih l[j] (by omega) hz (by omega); omega
theorem incr.found {l : List Int} {p : Nat} {x y : Int} (hs : Go.Proofs.Ytkbmenpggiojeaa.incr l) (hy : l[p]? = some y) (h1 : ∀ t z, t < p → l[t]? = some z → z < x) (h2 : x ≤ y) : x ∈ l ↔ y = x := by
  constructor
  · intro hm
    obtain ⟨t, ht, hx⟩ := List.mem_iff_getElem.1 hm
    have hx' : l[t]? = some x := by rw [List.getElem?_eq_getElem ht, hx]
    by_cases h : t < p
    · have := h1 t x h hx'; omega
    · by_cases e : t = p
      · subst e; rw [hy] at hx'; cases hx'; rfl
      · have := hs p t y x (by omega) hy hx'; omega
  · rintro rfl; exact List.mem_of_getElem? hy
theorem not_mem_of_less {l : List Int} {x : Int} (h : ∀ t z, t < l.length → l[t]? = some z → z < x) : ¬ x ∈ l := by
  intro hm
  obtain ⟨t, ht, hx⟩ := List.mem_iff_getElem.1 hm
  have := h t x ht (by rw [List.getElem?_eq_getElem ht, hx]); omega

def Finds (Q : Prop) (w : World) (e : Ending) (w' : World) : Prop := ∃ (p : Nat) (r : Bool), e = .returned (.tuple #[.int .i64 p, .bool r]) ∧ (r = true ↔ Q) ∧ w = w'

set_option maxHeartbeats 400000 in
theorem search_c (A : Option Addr) (c : Nat) (l : List Int) (x : Int) (w : World) (h : IntsAt w A l) (hl : l.length < 4611686018427387904) (hs : incr l) :
    Calls Try.prog 90 #[.slice A l.length c, .int .i64 x] w (Finds (x ∈ l) w) := by
  have HS := Lib.hid hs; clear hs
  go_enter Try.func90, Try.ntmps90
  go_wp2
  go_loop [7, 8, 9] (fun a b _ => ∃ lo hi : Nat, a = .int .i64 lo ∧ b = .int .i64 hi ∧ lo ≤ hi ∧ hi ≤ l.length ∧ Hid ((∀ t y, t < lo → l[t]? = some y → y < x) ∧ (∀ t y, hi ≤ t → l[t]? = some y → x ≤ y))) (fun a b _ => (intOf b).toNat - (intOf a).toNat)
  case atStart => exact ⟨0, l.length, rfl, rfl, Nat.zero_le _, Nat.le_refl _, fun t y ht => absurd ht (Nat.not_lt_zero _), fun t y h1 h2 => by have := (List.getElem?_eq_some_iff.1 h2).1; omega⟩
  case round =>
    obtain ⟨lo, hi, rfl, rfl, hlh, hin, H⟩ := hrel
    by_cases hlt : lo < hi
    · obtain ⟨b, off, y, rfl, _, hy, hcy⟩ := IntsAt.at h (k := (lo + hi) / 2) (by omega)
      by_cases hyx : y < x
      · go_wp2
        go_round
        case rel =>
          refine ⟨(lo + hi) / 2 + 1, hi, by go_num, rfl, by omega, hin, fun t z ht hz => ?_, H.out.2⟩
          by_cases e : t = (lo + hi) / 2
          · subst e; rw [hy] at hz; cases hz; exact hyx
          · have := HS.out t _ z y (by omega) hz hy; omega
        case measure => simp [intOf]; omega
      · go_wp2
        go_round
        case rel =>
          refine ⟨lo, (lo + hi) / 2, rfl, by go_num, by omega, by omega, H.out.1, fun t z ht hz => ?_⟩
          by_cases e : t = (lo + hi) / 2
          · subst e; rw [hy] at hz; cases hz; omega
          · have := HS.out _ t y z (by omega) hy hz; omega
        case measure => simp [intOf]; omega
    · obtain rfl : lo = hi := by omega
      by_cases hlo : lo < l.length
      · obtain ⟨b, off, y, rfl, _, hy, hcy⟩ := IntsAt.at h hlo
        have F := Lib.hid (HS.out.found hy H.out.1 (H.out.2 lo y (Nat.le_refl _) hy))
        go_wp2
        · go_ret2
          exact ⟨lo, true, rfl, by simpa using F.out.2 (by assumption), rfl⟩
        · go_ret2
          exact ⟨lo, y == x, rfl, by rw [F.out]; simp, rfl⟩
      · have F := Lib.hid (not_mem_of_less (l := l) (x := x) (fun t z ht hz => H.out.1 t z (by omega) hz))
        go_wp2
        go_ret2
        exact ⟨lo, false, rfl, by simpa using F.out, rfl⟩

theorem has_c (A : Option Addr) (c : Nat) (l : List Int) (x : Int) (w : World) (h : IntsAt w A l) (hl : l.length < 4611686018427387904) (hs : incr l) :
    Calls Try.prog 60 #[.slice A l.length c, .int .i64 x] w (Says (x ∈ l) w) := by
  have HC := Lib.hid (search_c A c l x w h hl hs)
  clear h hs
  go_enter Try.func60, Try.ntmps60
  go_wp2_with (go_at_call 90; refine HC.out.mono ?_; rintro e w' ⟨p, r, rfl, hr, rfl⟩; have HR := Lib.hid hr; clear hr)
  go_ret
  exact ⟨r, rfl, HR.out, rfl⟩
end Go.Proofs.Ytkbmenpggiojeaa
