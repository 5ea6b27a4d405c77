/-
  overseerlaw09.LanguageMany: the words over all events are as many as the powers say.
-/
import Derived.Test.YtkifgffhoenaoaaDoorBase22
namespace Go.Proofs.YtkifgffhoenaoaaDoor
open Go.RowKit
set_option linter.unusedSimpArgs false
set_option linter.unusedVariables false
set_option maxRecDepth 100000

theorem Lt5.set {l : List Int} (h : Lt5 l 5) : setOk l 32 l.length := by
  intro i x hi hx
  have := h.rg x (List.mem_of_getElem? hx)
  refine ⟨this.1, by omega, fun y h0 hy => h.inc (i - 1) i y x (by omega) hy hx⟩
/-- The powers of a number. -/
def pw (m k : Nat) : List Int := (List.range k).map fun j => ((m ^ j : Nat) : Int)
theorem pw_succ (m k : Nat) : pw m (k + 1) = pw m k ++ [((m ^ k : Nat) : Int)] := by simp [pw, List.range_succ]
theorem pw_len (m k : Nat) : (pw m k).length = k := by simp [pw]
set_option maxHeartbeats 8000000 in
theorem many_c (s len : Int) (w : World) (hs0 : 0 ≤ s) (hs1 : s < 256) (h0 : 0 ≤ len) (h1 : len < 256) (ht : TabW w) :
    Calls Tryd.prog 5 #[.int .u8 s, .int .u8 len] w (Ret (.bool true) w) := by
  have HTAB := Lib.hid ht
  clear ht
  obtain ⟨N, hN, hN32⟩ : ∃ N : Nat, len % 33 = (N : Int) ∧ N ≤ 32 := ⟨(len % 33).toNat, by omega, by omega⟩
  have e0 : len.tmod 33 = (N : Int) := by rw [Int.tmod_eq_emod_of_nonneg h0]; exact hN
  have e1 : IntKind.u8.wrap (N : Int) = (N : Int) := IntWalk.u8_in _ (by omega)
  have e2 : IntKind.i64.wrap (N : Int) = (N : Int) := IntWalk.i64_in _ (by omega)
  clear hN
  go_enter Tryd.func5, Tryd.ntmps5
  go_wp2_with fail
  refine (known_c w HTAB.out).mono ?_
  rintro e w1 ⟨rfl, hb1⟩
  have B1 := Lib.hid hb1
  clear hb1
  go_wp2_with fail
  refine (setEvents_c s w1 hs0 hs1).mono ?_
  rintro e w2 ⟨l, v, rfl, hl, HO, hb2⟩
  obtain ⟨A, c, rfl⟩ := Own.form HO.out
  have HI := Lib.hid (OwnI.ints HO.out)
  have hlc : l.length ≤ c := Own.cap HO.out
  have HL := Lib.hid hl
  have hl5 := hl.len
  have B2 : Hid (Below w.heap.size w w2) := B1.out.trans (hb2.mono B1.out.size)
  clear hb2 HO hl B1
  go_wp2_with fail
  refine (all_c A c l w2 HI.out (by omega) hlc).mono ?_
  rintro e w3 ⟨p, rfl, HA, HC, hb3⟩
  have B3 : Hid (Below w.heap.size w w3) := B2.out.trans (hb3.mono B2.out.size)
  clear hb3 B2 HI
  obtain ⟨A1, c1, A2, c2, A3, c3⟩ := p
  go_wp2_with fail
  refine (count_c (allV l) ⟨A1, c1, A2, c2, A3, c3⟩ 1 N w3 (allV_right HL.out.set) HA.out (.inl rfl) hN32).mono ?_
  intro e w4 hct
  obtain ⟨ev, An, cn, nl, rfl, HNI, hb4, HR⟩ : ∃ ev An cn nl, e = .returned (.tuple #[.slice An (nl : List Int).length cn, .int .i64 ev]) ∧ Hid (IntsAt w4 An nl) ∧ Below w3.heap.size w3 w4 ∧
      Hid ((ev = 0 ∧ nl = pw l.length (N + 1) ∧ ∀ j, j ≤ N → l.length ^ j ≤ 1125899906842624) ∨ (ev = 3 ∧ nl = [] ∧ An = none ∧ cn = 0 ∧ ∃ j, j ≤ N ∧ 1125899906842624 < l.length ^ j)) := by
    rcases hct with ⟨A, c, h1, h2, h3⟩ | ⟨h1, h2, h3⟩
    · have hm : ((List.range (N + 1)).map fun j => ((cnt (allV l) 1 j : Nat) : Int)) = pw l.length (N + 1) := by
        simp only [cnt_all HL.out.set]; rfl
      have h2' := h2.out
      rw [hm] at h2'
      refine ⟨0, A, c, pw l.length (N + 1), by rw [pw_len]; exact h1, ?_, h2'.below, .inl ⟨rfl, rfl, fun j hj => ?_⟩⟩
      · exact Sep.ints (A := A) (c := c) h2' 0 (by rw [pw_len]; rfl)
      · have := h3.out j hj; rwa [cnt_all HL.out.set] at this
    · obtain ⟨j, hj, hc⟩ := h3.out
      rw [cnt_all HL.out.set] at hc
      exact ⟨3, none, 0, [], h1, (fun h => absurd rfl h : IntsAt w4 none []), h2, .inr ⟨rfl, rfl, rfl, rfl, j, hj, hc⟩⟩
  have B4 : Hid (Below w.heap.size w w4) := B3.out.trans (hb4.mono B3.out.size)
  clear hb4 B3 hct HA HC
  have hmpos : ∀ k, (0 : Int) ≤ ((l.length ^ k : Nat) : Int) := fun k => Int.natCast_nonneg _
  go_wp2_with fail
  go_loopw [8, 9, 10] (fun pv v i wr => ∃ (k P : Nat), k ≤ N + 1 ∧ i = .int .i64 (k : Int) ∧ pv = .int .i64 (P : Int) ∧ Hid (P = l.length ^ k) ∧ Hid (OwnI w4.heap.size (pw l.length k) v wr) ∧ Hid (Fro w4.heap.size w4 wr) ∧ Hid (∀ j, j < k → l.length ^ j ≤ 1125899906842624)) (fun _ _ i _ => N + 1 - (intOf i).toNat)
  case atStart => exact ⟨0, 1, by omega, rfl, rfl, (Nat.pow_zero _).symm, Own.nil _, Fro.here w4, fun j hj => absurd hj (by omega)⟩
  case round =>
    obtain ⟨k, P, hk, rfl, rfl, hP, HV, BW, HJ⟩ := hrel
    by_cases hlt : k ≤ N
    · by_cases hbig : 1125899906842624 < P
      · obtain ⟨rfl, rfl, rfl, rfl⟩ : ev = 3 ∧ nl = [] ∧ An = none ∧ cn = 0 := by
          rcases HR.out with ⟨_, _, h⟩ | ⟨h1, h2, h3, h4, _⟩
          · have h9 := h k hlt; rw [← hP.out] at h9; omega
          · exact ⟨h1, h2, h3, h4⟩
        go_wp2_with fail
        go_ret
        exact ⟨rfl, B4.out.trans (BW.out.b.mono B4.out.size)⟩
      · have i1 : IntKind.i64.wrap ((P : Int) * (l.length : Int)) = (P : Int) * (l.length : Int) := IntWalk.i64_in _ (by
          have : P * l.length ≤ 1125899906842624 * 5 := Nat.mul_le_mul (by omega) hl5
          have h2 : ((P * l.length : Nat) : Int) = (P : Int) * (l.length : Int) := Int.natCast_mul _ _
          omega)
        have hpl := pw_len l.length k
        go_wp2_with (at_builtin; refine wpList_push rfl _ _ 32 rfl (HV.out.alloc _) Tryd.underlying32 _ 8 intInfo rfl (by decide) rfl (P : Int) wr.heap.size rfl rfl (one_cell _ _ _ _ rfl) (encI_one _) (by omega) (by decide) (BW.out.alloc _).z ?_)
        intro A' c' w5 ho hg _
        have HN := Lib.hid ho
        have HG := Lib.hid ((BW.out.alloc _).push (HV.out.alloc _) hg)
        clear ho hg
        go_wp2
        go_roundw
        case rel => exact ⟨k + 1, P * l.length, by omega, by go_num, congrArg (Value.int .i64) (Int.natCast_mul P l.length).symm, (hP.out ▸ (Nat.pow_succ ..).symm : P * l.length = l.length ^ (k + 1)), by have h := HN.out; rw [hP.out, ← pw_succ] at h; exact h, HG.out, fun j hj => by
          by_cases e : j = k
          · subst e; rw [← hP.out]; omega
          · exact HJ.out j (by omega)⟩
        case measure => simp [intOf]; omega
    · obtain rfl : k = N + 1 := by omega
      obtain ⟨rfl, rfl⟩ : ev = 0 ∧ nl = pw l.length (N + 1) := by
        rcases HR.out with ⟨h1, h2, _⟩ | ⟨_, _, _, _, j, h1, h2⟩
        · exact ⟨h1, h2⟩
        · have := HJ.out j (by omega); omega
      obtain ⟨Aw, cw, rfl⟩ := Own.form HV.out
      go_wp2_with fail
      refine (same_c An Aw cn cw (pw l.length (N + 1)) (pw l.length (N + 1)) _ (HNI.out.below IntE.stays BW.out.b) (OwnI.ints HV.out) (by rw [pw_len]; omega) (by rw [pw_len]; omega)).mono ?_
      intro e w6 hs
      obtain ⟨rfl, hb⟩ := hs.yes2 rfl
      have B6 : Hid (Below w.heap.size w w6) := B4.out.trans ((BW.out.b.trans (hb.mono BW.out.b.size)).mono B4.out.size)
      go_wp2_with fail
      go_ret
      exact ⟨rfl, B6.out⟩
end Go.Proofs.YtkifgffhoenaoaaDoor

