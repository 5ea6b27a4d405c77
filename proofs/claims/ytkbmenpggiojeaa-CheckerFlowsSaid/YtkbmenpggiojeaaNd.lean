/-
  The program's errors of sets and automata: alphabet.CheckSet, automaton.Check.
-/
import Derived.Test.YtkbmenpggiojeaaMd
import Derived.Test.YtkbmenpggiojeaaMo
namespace Go.Proofs.Ytkbmenpggiojeaa
open Go.RowKit
set_option linter.unusedSimpArgs false
set_option linter.unusedVariables false

/-- The contract of a function that only reads and returns an error: 0 exactly if Q. -/
def Errs (Q : Prop) (w : World) (e : Ending) (w' : World) : Prop := ∃ r : Int, e = .returned (.int .i64 r) ∧ (r = 0 ↔ Q) ∧ w = w'
theorem Errs.no {Q : Prop} {w w' : World} {r : Int} (h : ¬ Q) (hr : r ≠ 0) (hw : w = w') : Errs Q w (.returned (.int .i64 r)) w' := ⟨r, rfl, by simp [h, hr], hw⟩
theorem Errs.yes {Q : Prop} {w w' : World} (h : Q) (hw : w = w') : Errs Q w (.returned (.int .i64 0)) w' := ⟨0, rfl, by simp [h], hw⟩
/-- ... and one that leaves what there was. -/
def ErrsB (Q : Prop) (w : World) (e : Ending) (w' : World) : Prop := ∃ r : Int, e = .returned (.int .i64 r) ∧ (r = 0 ↔ Q) ∧ Below w.heap.size w w'
theorem ErrsB.no {Q : Prop} {w w' : World} {r : Int} (h : ¬ Q) (hr : r ≠ 0) (hw : Below w.heap.size w w') : ErrsB Q w (.returned (.int .i64 r)) w' := ⟨r, rfl, by simp [h, hr], hw⟩
theorem ErrsB.yes {Q : Prop} {w w' : World} (h : Q) (hw : Below w.heap.size w w') : ErrsB Q w (.returned (.int .i64 0)) w' := ⟨0, rfl, by simp [h], hw⟩
/-- An error that is one, or none: with its Bool for the walk. -/
theorem Errs.two {Q : Prop} {w w' : World} {e : Ending} (h : Errs Q w e w') : (∃ r : Int, e = .returned (.int .i64 r) ∧ (r == 0) = false ∧ Hid (r ≠ 0) ∧ Hid (¬ Q) ∧ w = w') ∨ (e = .returned (.int .i64 0) ∧ Hid Q ∧ w = w') := by
  obtain ⟨r, rfl, hr, rfl⟩ := h
  by_cases h0 : r = 0
  · subst h0; exact .inr ⟨rfl, hr.1 rfl, rfl⟩
  · exact .inl ⟨r, rfl, by simpa using h0, h0, fun h => h0 (hr.2 h), rfl⟩
theorem ErrsB.two {Q : Prop} {w w' : World} {e : Ending} (h : ErrsB Q w e w') : (∃ r : Int, e = .returned (.int .i64 r) ∧ (r == 0) = false ∧ Hid (r ≠ 0) ∧ Hid (¬ Q) ∧ Below w.heap.size w w') ∨ (e = .returned (.int .i64 0) ∧ Hid Q ∧ Below w.heap.size w w') := by
  obtain ⟨r, rfl, hr, hb⟩ := h
  by_cases h0 : r = 0
  · subst h0; exact .inr ⟨rfl, hr.1 rfl, hb⟩
  · exact .inl ⟨r, rfl, by simpa using h0, h0, fun h => h0 (hr.2 h), hb⟩

set_option maxHeartbeats 400000 in
theorem checkSetA_c (A : Option Addr) (c : Nat) (l : List Int) (n : Int) (w : World) (h : IntsAt w A l) (hl : l.length ≤ maxLen) :
    Calls Try.prog 27 #[.slice A l.length c, .int .i64 n] w (Errs (setOk l n l.length) w) := by
  unfold maxLen at hl
  go_enter Try.func27, Try.ntmps27
  go_wp2
  go_loop [5, 6, 9] (fun a b i => ∃ k : Nat, k ≤ l.length ∧ i = .int .i64 k ∧ Hid (setOk l n k)) (fun _ _ i => l.length - (intOf i).toNat)
  case atStart => exact ⟨0, by omega, rfl, fun i x h => absurd h (by omega)⟩
  case round =>
    obtain ⟨k, hk, rfl, hrel⟩ := hrel
    by_cases hlt : k < l.length
    · obtain ⟨b, off, x, rfl, _, hx, hcx⟩ := IntsAt.at h hlt
      by_cases hk0 : k = 0
      · subst hk0
        rw [Nat.add_zero] at hcx
        go_wp2
        any_goals (go_ret; exact Errs.no (setOk.not1 hx hlt (by omega)) (by decide) rfl)
        go_round
        case rel => exact ⟨1, by omega, by go_num, hrel.out.step hx (by omega) (by omega) (fun y h => absurd h (by omega))⟩
        case measure => simp [intOf]; omega
      · obtain ⟨y, hy, hcy⟩ := IntsAt.more h (k := k - 1) (by omega)
        go_wp2
        any_goals (go_ret; first | exact Errs.no (setOk.not1 hx hlt (by omega)) (by decide) rfl | exact Errs.no (setOk.not2 hx hlt (by omega) hy (by omega)) (by decide) rfl)
        go_round
        case rel => exact ⟨k+1, by omega, by go_num, hrel.out.step hx (by omega) (by omega) (fun z h hz => by rw [hy] at hz; cases hz; omega)⟩
        case measure => simp [intOf]; omega
    · obtain rfl : k = l.length := by omega
      go_wp2
      go_ret
      exact Errs.yes hrel.out rfl

set_option maxHeartbeats 400000 in
theorem checkSet_c (A : Option Addr) (c : Nat) (l : List Int) (n : Int) (w : World) (h : IntsAt w A l) (hl : l.length ≤ maxLen) :
    Calls Try.prog 57 #[.slice A l.length c, .int .i64 n] w (Errs (setOk l n l.length) w) := by
  unfold maxLen at hl
  go_enter Try.func57, Try.ntmps57
  go_wp2
  go_loop [5, 6, 9] (fun a b i => ∃ k : Nat, k ≤ l.length ∧ i = .int .i64 k ∧ Hid (setOk l n k)) (fun _ _ i => l.length - (intOf i).toNat)
  case atStart => exact ⟨0, by omega, rfl, fun i x h => absurd h (by omega)⟩
  case round =>
    obtain ⟨k, hk, rfl, hrel⟩ := hrel
    by_cases hlt : k < l.length
    · obtain ⟨b, off, x, rfl, _, hx, hcx⟩ := IntsAt.at h hlt
      by_cases hk0 : k = 0
      · subst hk0
        rw [Nat.add_zero] at hcx
        go_wp2
        any_goals (go_ret; exact Errs.no (setOk.not1 hx hlt (by omega)) (by decide) rfl)
        go_round
        case rel => exact ⟨1, by omega, by go_num, hrel.out.step hx (by omega) (by omega) (fun y h => absurd h (by omega))⟩
        case measure => simp [intOf]; omega
      · obtain ⟨y, hy, hcy⟩ := IntsAt.more h (k := k - 1) (by omega)
        go_wp2
        any_goals (go_ret; first | exact Errs.no (setOk.not1 hx hlt (by omega)) (by decide) rfl | exact Errs.no (setOk.not2 hx hlt (by omega) hy (by omega)) (by decide) rfl)
        go_round
        case rel => exact ⟨k+1, by omega, by go_num, hrel.out.step hx (by omega) (by omega) (fun z h hz => by rw [hy] at hz; cases hz; omega)⟩
        case measure => simp [intOf]; omega
    · obtain rfl : k = l.length := by omega
      go_wp2
      go_ret
      exact Errs.yes hrel.out rfl


set_option maxRecDepth 100000
/-- A function that reads alone and returns a place, or -1. -/
def PlaceOf (Q : Prop) (w : World) (e : Ending) (w' : World) : Prop := ∃ r : Int, e = .returned (.int .i64 r) ∧ (0 ≤ r ↔ Q) ∧ w = w'
theorem notMem {l : List Int} {x : Int} (h : ∀ j y, j < l.length → l[j]? = some y → y ≠ x) : ¬ x ∈ l := notIn_all h
theorem indexV_c (A : Option Addr) (c : Nat) (l : List Int) (x : Int) (w : World) (h : IntsAt w A l) (hl : l.length ≤ 140737488355328) :
    Calls Try.prog 100 #[.slice A l.length c, .int .i64 x] w (PlaceOf (x ∈ l) w) := by
  go_enter Try.func100, Try.ntmps100
  go_wp2
  go_loop [5, 8] (fun _ i => ∃ k : Nat, k ≤ l.length ∧ i = .int .i64 k ∧ Hid (∀ j y, j < k → l[j]? = some y → y ≠ x)) (fun _ i => l.length - (intOf i).toNat)
  case atStart => exact ⟨0, by omega, rfl, fun i x h => absurd h (by omega)⟩
  case round =>
    obtain ⟨k, hk, rfl, H⟩ := hrel
    by_cases hlt : k < l.length
    · obtain ⟨b, off, y, rfl, _, hy, hcy⟩ := IntsAt.at h hlt
      have HY := Lib.hid hy
      clear hy
      by_cases hyx : x = y
      · have hyx' : (x == y) = true := by simpa using hyx
        have HM := Lib.hid (List.mem_of_getElem? HY.out)
        have HYX := Lib.hid hyx
        clear hyx
        go_wp2
        go_ret
        exact ⟨_, rfl, by simp; rw [HYX.out]; exact HM.out, rfl⟩
      · have hyx' : (x == y) = false := by simpa using hyx
        have HYX := Lib.hid hyx
        clear hyx
        go_wp2
        go_round
        case rel => exact ⟨k + 1, by omega, by go_num, fun j z hj hz => by
          by_cases e : j = k
          · subst e; rw [HY.out] at hz; cases hz; exact fun h => HYX.out h.symm
          · exact H.out j z (by omega) hz⟩
        case measure => simp [intOf]; omega
    · obtain rfl : k = l.length := by omega
      have HN := Lib.hid (notMem H.out)
      go_wp2
      go_ret
      exact ⟨_, rfl, by simp; exact HN.out, rfl⟩
theorem containsV_c (A : Option Addr) (c : Nat) (l : List Int) (x : Int) (w : World) (h : IntsAt w A l) (hl : l.length ≤ 140737488355328) :
    Calls Try.prog 71 #[.slice A l.length c, .int .i64 x] w (Says (x ∈ l) w) := by
  have HC := Lib.hid (indexV_c A c l x w h hl)
  clear h
  go_enter Try.func71, Try.ntmps71
  go_wp2_with fail
  refine HC.out.mono ?_
  rintro e w' ⟨r, rfl, hr, rfl⟩
  have HR := Lib.hid hr
  clear hr
  go_wp2
  go_ret
  exact ⟨_, rfl, by rw [← HR.out]; simp, rfl⟩

theorem edOk.no {a : Au} {i : Nat} {x : Ed} (hx : a.ed[i]? = some x) (hi : i < a.ed.length) (h : edOk a i → False) : ¬ ∀ j, j < a.ed.length → edOk a j := fun g => h (g i hi)

set_option maxHeartbeats 1000000 in
theorem checkEdges_c (a : Au) (p : AuP) (w : World) (h : Au.At w a p) :
    Calls Try.prog 58 #[a.val p] w (ErrsB (∀ i, i < a.ed.length → edOk a i) w) := by
  have B0 : Hid (Below w.heap.size w (w.alloc (.cells (auCells a p).toArray 39))) := Below.new _ _
  have W0 : Hid (Fro (w.heap.size + 1) (w.alloc (.cells (auCells a p).toArray 39)) (w.alloc (.cells (auCells a p).toArray 39))) := Fro.refl (by simp)
  have C0 : Hid (HasAt w.heap.size (auCells a p) (w.alloc (.cells (auCells a p).toArray 39))) := HasAt.new w _ _ rfl
  have HP := Lib.hid h
  have lal := h.lal
  have led := h.led
  clear h
  obtain ⟨al, n, mr, ed⟩ := a
  obtain ⟨A1, c1, A2, c2, A3, c3⟩ := p
  dsimp only [Au.val, auCells] at *
  have q3 := C0.out.c 3 _ rfl
  go_enter Try.func58, Try.ntmps58
  go_wp2_with fail
  generalize hW : w.alloc (.cells #[.slice A1 al.length c1, .int .i64 n, .slice A2 mr.length c2, .slice A3 ed.length c3] 39) = W at *
  clear hW q3
  go_loopw [3, 9] (fun _ i wr => ∃ k : Nat, k ≤ ed.length ∧ i = .int .i64 k ∧ Hid (Fro (w.heap.size + 1) W wr) ∧ Hid (∀ i, i < k → edOk ⟨al, n, mr, ed⟩ i)) (fun _ i _ => ed.length - (intOf i).toNat)
  case atStart => exact ⟨0, by omega, rfl, W0.out, fun i h => absurd h (by omega)⟩
  case round =>
    obtain ⟨k, hk, rfl, BW, HE⟩ := hrel
    have C2 := Lib.hid (C0.out.fro BW.out (Nat.lt_succ_self _))
    have q0 := C2.out.c 0 _ rfl
    have q1 := C2.out.c 1 _ rfl
    have q3 := C2.out.c 3 _ rfl
    have hz := C2.out.z
    have BWW : Hid (Below w.heap.size w wr) := B0.out.trans (BW.out.b.mono (by omega))
    by_cases hlt : k < ed.length
    · obtain ⟨b, off, x, hA3, hb, hx, e0, e1, e2⟩ := EdsAt.at ((HP.out.below BWW.out).ed) hlt
      obtain ⟨src, ev, dst⟩ := x
      dsimp only at hA3 e0 e1 e2
      subst hA3
      have HX := Lib.hid hx
      clear hx
      by_cases hs : 0 ≤ src ∧ src < n ∧ 0 ≤ dst ∧ dst < n
      · obtain ⟨s0, s1, d0, d1⟩ := hs
        have BN : Hid (Fro (w.heap.size + 1) W (wr.alloc (.cells #[.int .i64 src, .int .i64 ev, .int .i64 dst] 73))) := BW.out.alloc _
        have BNN : Hid (Below w.heap.size w (wr.alloc (.cells #[.int .i64 src, .int .i64 ev, .int .i64 dst] 73))) := B0.out.trans (BN.out.b.mono (by omega))
        go_wp2_with fail
        refine (containsV_c A1 c1 al ev _ ((HP.out.below BNN.out).al) lal).mono ?_
        intro e w1 hs; rcases hs.no1 with ⟨rfl, SE, rfl⟩ | ⟨rfl, SE, rfl⟩
        · clear hs
          go_wp2
          go_ret
          exact ErrsB.no (fun h => SE.out (h k hlt _ HX.out).2.2.2.2.1) (by decide) BNN.out
        clear hs
        by_cases hk0 : k = 0
        · subst hk0
          go_wp2
          go_roundw
          case rel => exact ⟨1, by omega, by go_num, BN.out, fun i hi => by
            obtain rfl : i = 0 := by omega
            intro z hz
            rw [HX.out] at hz; cases hz
            exact ⟨s0, s1, d0, d1, SE.out, fun y h => absurd h (by omega)⟩⟩
          case measure => simp [intOf]; omega
        · obtain ⟨y, hy, f0, f1, f2⟩ := EdsAt.more ((HP.out.below BWW.out).ed) (k := k - 1) (by simp only; omega)
          obtain ⟨ysrc, yev, ydst⟩ := y
          dsimp only at f0 f1 f2
          have HY := Lib.hid hy
          clear hy
          have hk1 : 0 < k := by omega
          have hk2 : ((k : Int) == 0) = false := by simpa using hk0
          have BN2 : Hid (Fro (w.heap.size + 1) W ((wr.alloc (.cells #[.int .i64 src, .int .i64 ev, .int .i64 dst] 73)).alloc (.cells #[.int .i64 ysrc, .int .i64 yev, .int .i64 ydst] 73))) := BN.out.alloc _
          have BN2N : Hid (Below w.heap.size w ((wr.alloc (.cells #[.int .i64 src, .int .i64 ev, .int .i64 dst] 73)).alloc (.cells #[.int .i64 ysrc, .int .i64 yev, .int .i64 ydst] 73))) := B0.out.trans (BN2.out.b.mono (by omega))
          by_cases hord : ysrc < src ∨ ysrc = src ∧ yev < ev
          · have HO := Lib.hid hord
            have g1 : decide (src < ysrc) = false := by simp; omega
            by_cases g2 : src = ysrc
            · subst g2
              have g3 : decide (ev ≤ yev) = false := by simp; omega
              have HEV : Hid (yev < ev) := by unfold Hid; omega
              clear hord
              go_wp2
              go_roundw
              case rel => exact ⟨k + 1, by omega, by go_num, BN2.out, fun i hi => by
                by_cases e : i = k
                · subst e
                  intro z hz
                  rw [HX.out] at hz; cases hz
                  exact ⟨s0, s1, d0, d1, SE.out, fun y _ h => by rw [HY.out] at h; cases h; exact .inr ⟨rfl, HEV.out⟩⟩
                · exact HE.out i (by omega)⟩
              case measure => simp [intOf]; omega
            · have g2' : (src == ysrc) = false := by simpa using g2
              clear hord g2
              go_wp2
              go_roundw
              case rel => exact ⟨k + 1, by omega, by go_num, BN2.out, fun i hi => by
                by_cases e : i = k
                · subst e
                  intro z hz
                  rw [HX.out] at hz; cases hz
                  exact ⟨s0, s1, d0, d1, SE.out, fun y _ h => by rw [HY.out] at h; cases h; exact HO.out⟩
                · exact HE.out i (by omega)⟩
              case measure => simp [intOf]; omega
          · have HO := Lib.hid hord
            have NO : Hid (¬ ∀ i, i < ed.length → edOk ⟨al, n, mr, ed⟩ i) := fun h => HO.out ((h k hlt _ HX.out).2.2.2.2.2 _ hk1 HY.out)
            by_cases g1 : src < ysrc
            · clear hord
              go_wp2
              go_ret
              exact ErrsB.no NO.out (by decide) BN2N.out
            · have g1' : decide (src < ysrc) = false := by simpa using g1
              obtain rfl : src = ysrc := by omega
              have g3 : decide (ev ≤ yev) = true := by simp; omega
              clear hord
              go_wp2
              go_ret
              exact ErrsB.no NO.out (by decide) BN2N.out
      · go_wp2
        any_goals (go_ret; exact ErrsB.no (fun h => by have := h k hlt _ HX.out; simp only at this; omega) (by decide) (BWW.out.alloc (by omega) _))
    · obtain rfl : k = ed.length := by omega
      go_wp2
      go_ret
      exact ErrsB.yes HE.out BWW.out

set_option maxHeartbeats 1000000 in
theorem Check_c (a : Au) (p : AuP) (w : World) (h : Au.At w a p) :
    Calls Try.prog 22 #[a.val p] w (ErrsB a.Right w) := by
  have B0 : Hid (Below w.heap.size w (w.alloc (.cells (auCells a p).toArray 39))) := Below.new _ _
  have C0 : Hid (HasAt w.heap.size (auCells a p) (w.alloc (.cells (auCells a p).toArray 39))) := HasAt.new w _ _ rfl
  have HP := Lib.hid h
  have lal := h.lal
  have lmk := h.lmk
  clear h
  obtain ⟨al, n, mr, ed⟩ := a
  obtain ⟨A1, c1, A2, c2, A3, c3⟩ := p
  dsimp only [Au.val, auCells] at *
  have q0 := C0.out.c 0 _ rfl
  have q1 := C0.out.c 1 _ rfl
  have q2 := C0.out.c 2 _ rfl
  have q3 := C0.out.c 3 _ rfl
  go_enter Try.func22, Try.ntmps22
  go_wp2_with fail
  generalize hW : w.alloc (.cells #[.slice A1 al.length c1, .int .i64 n, .slice A2 mr.length c2, .slice A3 ed.length c3] 39) = W at *
  clear hW
  refine (checkSet_c A1 c1 al 32 W ((HP.out.below B0.out).al) (by unfold maxLen; omega)).mono ?_
  intro e w1 hs
  rcases hs.two with ⟨r, rfl, hr, HR, S1, rfl⟩ | ⟨rfl, S1, rfl⟩
  · clear hs
    go_wp2
    go_ret
    exact ErrsB.no (fun h => S1.out h.al) HR.out B0.out
  clear hs
  by_cases hn0 : n < 0
  · go_wp2
    go_ret
    exact ErrsB.no (fun h => by have := h.n0; simp only at this; omega) (by decide) B0.out
  by_cases hn1 : 4096 < n
  · go_wp2
    go_ret
    exact ErrsB.no (fun h => by have := h.n1; simp only at this; omega) (by decide) B0.out
  go_wp2_with fail
  refine (checkSet_c A2 c2 mr n W ((HP.out.below B0.out).mr) (by unfold maxLen; omega)).mono ?_
  intro e w1 hs
  rcases hs.two with ⟨r, rfl, hr, HR, S2, rfl⟩ | ⟨rfl, S2, rfl⟩
  · clear hs
    go_wp2
    go_ret
    exact ErrsB.no (fun h => S2.out h.mr) HR.out B0.out
  clear hs
  go_wp2_with fail
  refine (checkEdges_c ⟨al, n, mr, ed⟩ ⟨A1, c1, A2, c2, A3, c3⟩ W (HP.out.below B0.out)).mono ?_
  rintro e w2 ⟨r, rfl, hr, hb⟩
  have HR := Lib.hid hr
  have HB := Lib.hid (B0.out.trans (hb.mono B0.out.size))
  clear hr hb
  go_wp2
  go_ret
  exact ⟨r, rfl, by rw [HR.out]; exact ⟨fun h => ⟨S1.out, by omega, by omega, S2.out, h⟩, fun h => h.ed⟩, HB.out⟩
end Go.Proofs.Ytkbmenpggiojeaa
