/-
  lookup: the index of a pair.
-/
import Derived.Test.YtkbmenpggiojeaaMq
import Derived.BigQuiet
namespace Go.Proofs.Ytkbmenpggiojeaa
open Go.RowKit
set_option linter.unusedSimpArgs false
set_option linter.unusedVariables false

def hitP (f s : Int) (b : Bool) (p : Pa) : Prop := p.fst = f ∧ p.snd = s ∧ (0 ≤ p.rk ↔ b = true)
instance (f s : Int) (b : Bool) (p : Pa) : Decidable (hitP f s b p) := by unfold hitP; infer_instance
/-- The index of the first pair of two states, with a fault or without, or -1. -/
def lookV (l : List Pa) (f s : Int) (b : Bool) : Int := match l.findIdx? (fun p => decide (hitP f s b p)) with
  | some k => (k : Int)
  | none => -1
theorem lookV_hit {l : List Pa} {f s : Int} {b : Bool} {k : Nat} {x : Pa} (h : ∀ j y, j < k → l[j]? = some y → ¬ hitP f s b y) (hx : l[k]? = some x) (h1 : hitP f s b x) : lookV l f s b = k := by
  have : l.findIdx? (fun p => decide (hitP f s b p)) = some k := by
    rw [List.findIdx?_eq_some_iff_getElem]
    obtain ⟨hk, hg⟩ := List.getElem?_eq_some_iff.1 hx
    refine ⟨hk, by simp [hg, h1], fun j hj => ?_⟩
    have := h j _ hj (List.getElem?_eq_getElem (by omega))
    simpa using this
  simp [lookV, this]
theorem lookV_miss {l : List Pa} {f s : Int} {b : Bool} (h : ∀ j y, j < l.length → l[j]? = some y → ¬ hitP f s b y) : lookV l f s b = -1 := by
  have : l.findIdx? (fun p => decide (hitP f s b p)) = none := by
    rw [List.findIdx?_eq_none_iff]
    intro x hx
    obtain ⟨t, ht, hx⟩ := List.mem_iff_getElem.1 hx
    have := h t x ht (by rw [List.getElem?_eq_getElem ht, hx])
    simpa using this
  simp [lookV, this]
theorem lookV_cases (l : List Pa) (f s : Int) (b : Bool) : (lookV l f s b = -1 ∧ ∀ p, p ∈ l → ¬ hitP f s b p) ∨ ∃ (k : Nat) (x : Pa), lookV l f s b = k ∧ l[k]? = some x ∧ hitP f s b x ∧ ∀ j y, j < k → l[j]? = some y → ¬ hitP f s b y := by
  cases h : l.findIdx? (fun p => decide (hitP f s b p)) with
  | none =>
    refine .inl ⟨by simp [lookV, h], fun p hp => ?_⟩
    rw [List.findIdx?_eq_none_iff] at h
    have := h p hp
    simpa using this
  | some k =>
    rw [List.findIdx?_eq_some_iff_getElem] at h
    obtain ⟨hk, h1, h2⟩ := h
    refine .inr ⟨k, l[k], ?_, List.getElem?_eq_getElem hk, by simpa using h1, fun j y hj hy => ?_⟩
    · have : l.findIdx? (fun p => decide (hitP f s b p)) = some k := by
        rw [List.findIdx?_eq_some_iff_getElem]; exact ⟨hk, h1, h2⟩
      simp [lookV, this]
    · have := h2 j hj
      rw [List.getElem?_eq_getElem (by omega)] at hy
      cases hy
      simpa using this

set_option maxHeartbeats 2000000 in
theorem lookup_c (A : Option Addr) (c : Nat) (l : List Pa) (f s r : Int) (b : Bool) (w : World) (h : PasAt w A l) (ll : l.length ≤ 140737488355328) :
    Calls Try.prog 40 #[.slice A l.length c, .agg #[.int .i64 f, .int .i64 s, .int .i64 r], .bool b] w (Ret (.int .i64 (lookV l f s b)) w) := by
  have B0 := Lib.hid (Below.new w (.cells #[.int .i64 f, .int .i64 s, .int .i64 r] 46))
  have HL := Lib.hid (h.below PaE.stays B0.out)
  have q0 : (w.alloc (.cells #[.int .i64 f, .int .i64 s, .int .i64 r] 46)).cell? ⟨w.heap.size, 0, none⟩ = some (.int .i64 f) := new_cell w _ [_, _, _] _ 0 rfl
  have q1 : (w.alloc (.cells #[.int .i64 f, .int .i64 s, .int .i64 r] 46)).cell? ⟨w.heap.size, 1, none⟩ = some (.int .i64 s) := new_cell w _ [_, _, _] _ 1 rfl
  clear h
  go_enter Try.func40, Try.ntmps40
  go_wp2_with fail
  have hzw : w.heap.size < (w.alloc (.cells #[.int .i64 f, .int .i64 s, .int .i64 r] 46)).heap.size := by simp
  generalize hW : w.alloc (.cells #[.int .i64 f, .int .i64 s, .int .i64 r] 46) = W at *
  clear hW
  go_loopw [7] (fun i wr => ∃ k : Nat, k ≤ l.length ∧ i = .int .i64 k ∧ Hid (Below W.heap.size W wr) ∧ Hid (∀ j y, j < k → l[j]? = some y → ¬ hitP f s b y)) (fun i _ => l.length - (intOf i).toNat)
  case atStart => exact ⟨0, by omega, rfl, Below.refl _ _, fun i x h => absurd h (by omega)⟩
  case round =>
    obtain ⟨k, hk, rfl, BW, H⟩ := hrel
    by_cases hlt : k < l.length
    · obtain ⟨x, hx⟩ : ∃ x, l[k]? = some x := ⟨_, List.getElem?_eq_getElem hlt⟩
      obtain ⟨bb, off, rfl, hb, e0, e1, e2⟩ := PasAt.get (HL.out.below PaE.stays BW.out) hx
      obtain ⟨fst, snd, rk⟩ := x
      dsimp only at e0 e1 e2
      have HX := Lib.hid hx
      clear hx
      have HN : Hid (¬ hitP f s b ⟨fst, snd, rk⟩ → ∀ j y, j < k + 1 → l[j]? = some y → ¬ hitP f s b y) := fun hn j y hj hy => by
        by_cases e : j = k
        · subst e; rw [HX.out] at hy; cases hy; exact hn
        · exact H.out j y (by omega) hy
      have q0' := old_cell BW.out q0 hzw
      have q1' := old_cell BW.out q1 hzw
      by_cases h1 : fst = f
      · have h1' : (fst == f) = true := by simpa using h1
        have H1 := Lib.hid h1
        clear h1
        by_cases h2 : snd = s
        · have h2' : (snd == s) = true := by simpa using h2
          have H2 := Lib.hid h2
          clear h2
          by_cases h3 : 0 ≤ rk
          · have h3' : decide (0 ≤ rk) = true := by simpa using h3
            have H3 := Lib.hid h3
            clear h3
            cases b
            · have HM := Lib.hid (HN.out (fun h => by have := h.2.2.1 H3.out; simp at this))
              go_wp2_with fail
              go_quiet (fail)
              go_wp2
              go_roundw
              case rel => exact ⟨k + 1, by omega, by go_num, BW.out.draws _, HM.out⟩
              case measure => simp [intOf]; omega
            · have HM := Lib.hid (show hitP f s true ⟨fst, snd, rk⟩ from ⟨H1.out, H2.out, by simp [H3.out]⟩)
              go_wp2_with fail
              go_quiet (fail)
              go_wp2
              go_ret
              exact ⟨ret_int (lookV_hit H.out HX.out HM.out).symm, B0.out.trans ((BW.out.draws _).mono B0.out.size)⟩
          · have h3' : decide (0 ≤ rk) = false := by simpa using h3
            have H3 := Lib.hid h3
            clear h3
            cases b
            · have HM := Lib.hid (show hitP f s false ⟨fst, snd, rk⟩ from ⟨H1.out, H2.out, by simpa using H3.out⟩)
              go_wp2_with fail
              go_quiet (fail)
              go_wp2
              go_ret
              exact ⟨ret_int (lookV_hit H.out HX.out HM.out).symm, B0.out.trans ((BW.out.draws _).mono B0.out.size)⟩
            · have HM := Lib.hid (HN.out (fun h => H3.out (h.2.2.2 rfl)))
              go_wp2_with fail
              go_quiet (fail)
              go_wp2
              go_roundw
              case rel => exact ⟨k + 1, by omega, by go_num, BW.out.draws _, HM.out⟩
              case measure => simp [intOf]; omega
        · have h2' : (snd == s) = false := by simpa using h2
          have HM := Lib.hid (HN.out (fun h => h2 h.2.1))
          clear h2
          go_wp2_with fail
          go_quiet (fail)
          go_wp2
          go_roundw
          case rel => exact ⟨k + 1, by omega, by go_num, BW.out.draws _, HM.out⟩
          case measure => simp [intOf]; omega
      · have h1' : (fst == f) = false := by simpa using h1
        have HM := Lib.hid (HN.out (fun h => h1 h.1))
        clear h1
        go_wp2_with fail
        go_quiet (fail)
        go_wp2
        go_roundw
        case rel => exact ⟨k + 1, by omega, by go_num, BW.out.draws _, HM.out⟩
        case measure => simp [intOf]; omega
    · obtain rfl : k = l.length := by omega
      go_wp2
      go_ret
      exact ⟨ret_int (lookV_miss H.out).symm, B0.out.trans (BW.out.mono B0.out.size)⟩
end Go.Proofs.Ytkbmenpggiojeaa
