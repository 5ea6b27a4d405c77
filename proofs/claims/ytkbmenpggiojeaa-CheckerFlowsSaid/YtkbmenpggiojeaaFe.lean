/-
  The law's own functions on flows; the net of a shape.
-/
import Derived.Test.YtkbmenpggiojeaaFb
import Derived.Test.YtkbmenpggiojeaaMm
namespace Go.Proofs.Ytkbmenpggiojeaa
open Go.RowKit
set_option linter.unusedSimpArgs false
set_option linter.unusedVariables false
set_option maxRecDepth 100000

set_option maxHeartbeats 400000 in
theorem flow_c (A : Option Addr) (c : Nat) (l : List Int) (n : Nat) (w : World) (h : IntsAt w A l) (hl : l.length ≤ 140737488355328) :
    Calls Try.prog 17 #[.slice A l.length c, .int .i64 n] w (Says (WtOk l n) w) := by
  go_enter Try.func17, Try.ntmps17
  go_wp2
  go_loop [5, 6] (fun s i => ∃ (k : Nat) (b : Bool), k ≤ l.length ∧ i = .int .i64 k ∧ s = .bool b ∧ Hid (∀ (j : Nat) x, j < k → l[j]? = some x → 0 ≤ x ∧ x ≤ 65536) ∧ Hid (b = true ↔ ∃ (j : Nat) (x : Int), j < k ∧ l[j]? = some x ∧ 0 < x)) (fun _ i => l.length - (intOf i).toNat)
  case atStart => exact ⟨0, false, by omega, rfl, rfl, fun i x h => absurd h (by omega), by simp [Hid]⟩
  case round =>
    obtain ⟨k, s, hk, rfl, rfl, HR, HS⟩ := hrel
    by_cases hlt : k < l.length
    · obtain ⟨b, off, x, rfl, _, hx, hcx⟩ := IntsAt.at h hlt
      have HX := Lib.hid hx
      clear hx
      by_cases h0 : x < 0
      · have h0' : decide (x < 0) = true := by simpa using h0
        go_wp2
        go_ret
        exact Says.no (fun h => by have := h.r x (List.mem_of_getElem? HX.out); omega) rfl
      have h0' : decide (x < 0) = false := by simpa using h0
      by_cases h1 : 65536 < x
      · have h1' : decide (65536 < x) = true := by simpa using h1
        go_wp2
        go_ret
        exact Says.no (fun h => by have := h.r x (List.mem_of_getElem? HX.out); omega) rfl
      have h1' : decide (65536 < x) = false := by simpa using h1
      have HRN : Hid (∀ (j : Nat) x, j < k + 1 → l[j]? = some x → 0 ≤ x ∧ x ≤ 65536) := fun j z hj hz => by
        by_cases e : j = k
        · subst e; rw [HX.out] at hz; cases hz; omega
        · exact HR.out j z (by omega) hz
      cases s
      · by_cases h2 : 0 < x
        · have h2' : decide (0 < x) = true := by simpa using h2
          go_wp2
          go_round
          case rel => exact ⟨k + 1, true, by omega, by go_num, rfl, HRN.out, ⟨fun _ => ⟨k, x, by omega, HX.out, by omega⟩, fun _ => rfl⟩⟩
          case measure => simp [intOf]; omega
        · have h2' : decide (0 < x) = false := by simpa using h2
          go_wp2
          go_round
          case rel => exact ⟨k + 1, false, by omega, by go_num, rfl, HRN.out, ⟨fun h => absurd h (by simp), fun ⟨j, z, hj, hz, h0⟩ => by
            by_cases e : j = k
            · subst e; rw [HX.out] at hz; cases hz; omega
            · exact HS.out.2 ⟨j, z, by omega, hz, h0⟩⟩⟩
          case measure => simp [intOf]; omega
      · go_wp2
        go_round
        case rel => exact ⟨k + 1, true, by omega, by go_num, rfl, HRN.out, ⟨fun _ => by
          obtain ⟨j, z, hj, h⟩ := HS.out.1 (by simp)
          exact ⟨j, z, by omega, h⟩, fun _ => rfl⟩⟩
        case measure => simp [intOf]; omega
    · obtain rfl : k = l.length := by omega
      have HRF : Hid (∀ x, x ∈ l → 0 ≤ x ∧ x ≤ 65536) := fun x hx => by
        obtain ⟨t, ht, rfl⟩ := List.mem_iff_getElem.1 hx
        exact HR.out t _ ht (List.getElem?_eq_getElem ht)
      cases s
      · go_wp2
        go_ret
        exact Says.no (fun h => by
          obtain ⟨x, hx, h0⟩ := h.s
          obtain ⟨t, ht, rfl⟩ := List.mem_iff_getElem.1 hx
          have := HS.out.2 ⟨t, _, ht, List.getElem?_eq_getElem ht, h0⟩
          simp at this) rfl
      · have HSF : Hid (∃ x, x ∈ l ∧ 0 < x) := by
          obtain ⟨j, z, _, hz, h0⟩ := HS.out.1 (by simp)
          exact ⟨z, List.mem_of_getElem? hz, h0⟩
        go_wp2
        go_ret
        exact ⟨_, rfl, ⟨fun h => ⟨Int.ofNat_inj.1 (by simpa using h), HRF.out, HSF.out⟩, fun h => by have := h.len; simp; omega⟩, rfl⟩

/-- The weight of the arc of a place, or 0. -/
def wOf (l : List Arc) (p : Int) : Int := ((l.find? fun x => decide (x.pl = p)).map (·.wt)).getD 0
theorem wOf_hit {l : List Arc} {p : Int} {k : Nat} {x : Arc} (h : ∀ j y, j < k → l[j]? = some y → y.pl ≠ p) (hx : l[k]? = some x) (h1 : x.pl = p) : wOf l p = x.wt := by
  have : l.find? (fun x => decide (x.pl = p)) = some x := by
    rw [List.find?_eq_some_iff_getElem]
    obtain ⟨hk, hg⟩ := List.getElem?_eq_some_iff.1 hx
    refine ⟨by simp [h1], k, hk, hg, fun j hj => ?_⟩
    have := h j l[j] hj (List.getElem?_eq_getElem _)
    simpa using this
  simp [wOf, this]
theorem wOf_miss {l : List Arc} {p : Int} (h : ∀ j y, j < l.length → l[j]? = some y → y.pl ≠ p) : wOf l p = 0 := by
  have : l.find? (fun x => decide (x.pl = p)) = none := by
    rw [List.find?_eq_none]
    intro x hx
    obtain ⟨t, ht, hx⟩ := List.mem_iff_getElem.1 hx
    have := h t x ht (by rw [List.getElem?_eq_getElem ht, hx])
    simpa using this
  simp [wOf, this]
set_option maxHeartbeats 400000 in
theorem weight_c (A : Option Addr) (c : Nat) (l : List Arc) (p : Int) (w : World) (h : ArcsAt w A l) (hl : l.length ≤ 140737488355328) :
    Calls Try.prog 18 #[.slice A l.length c, .int .i64 p] w (fun e w' => e = .returned (.int .i64 (wOf l p)) ∧ w = w') := by
  have HL := Lib.hid h
  clear h
  go_enter Try.func18, Try.ntmps18
  go_wp2
  go_loop [5] (fun i => ∃ k : Nat, k ≤ l.length ∧ i = .int .i64 k ∧ Hid (∀ j y, j < k → l[j]? = some y → y.pl ≠ p)) (fun i => l.length - (intOf i).toNat)
  case atStart => exact ⟨0, by omega, rfl, fun i x h => absurd h (by omega)⟩
  case round =>
    obtain ⟨k, hk, rfl, H⟩ := hrel
    by_cases hlt : k < l.length
    · obtain ⟨x, hx⟩ : ∃ x, l[k]? = some x := ⟨_, List.getElem?_eq_getElem hlt⟩
      obtain ⟨b, off, hA, hb, e0, e1⟩ := ArcsAt.get HL.out hx
      subst hA
      obtain ⟨pl, wt⟩ := x
      dsimp only at e0 e1
      have HX := Lib.hid hx
      clear hx
      by_cases he : pl = p
      · have he' : (pl == p) = true := by simpa using he
        have HE := Lib.hid he
        clear he
        go_wp2
        go_ret
        exact ⟨ret_int (wOf_hit H.out HX.out HE.out).symm, rfl⟩
      · have he' : (pl == p) = false := by simpa using he
        have HE := Lib.hid he
        clear he
        go_wp2
        go_round
        case rel => exact ⟨k + 1, by omega, by go_num, fun j z hj hz => by
          by_cases e : j = k
          · subst e; rw [HX.out] at hz; cases hz; exact HE.out
          · exact H.out j z (by omega) hz⟩
        case measure => simp [intOf]; omega
    · obtain rfl : k = l.length := by omega
      go_wp2
      go_ret
      exact ⟨ret_int (wOf_miss H.out).symm, rfl⟩
end Go.Proofs.Ytkbmenpggiojeaa
