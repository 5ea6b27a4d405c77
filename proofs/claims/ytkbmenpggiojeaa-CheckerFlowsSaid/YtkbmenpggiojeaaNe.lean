/-
  The law's look at the size of an automaton; the checker's look at a supervisor, where this is the empty automaton.
-/
import Derived.Test.YtkbmenpggiojeaaNd
import Derived.Test.YtkbmenpggiojeaaKt
import Derived.Test.YtkbmenpggiojeaaLe
namespace Go.Proofs.Ytkbmenpggiojeaa
open Go.RowKit
set_option linter.unusedSimpArgs false
set_option linter.unusedVariables false
set_option maxRecDepth 100000

structure Few (a : Au) : Prop where
  l1 : a.al.length ≤ 10
  l2 : a.mr.length ≤ 10
  l3 : a.ed.length ≤ 10
  n : a.n ≤ 40 ∨ ¬ a.Right

set_option maxHeartbeats 1000000 in
theorem few_c (a : Au) (p : AuP) (w : World) (h1 : IntsAt w p.A1 a.al) (h2 : IntsAt w p.A2 a.mr) (h3 : EdsAt w p.A3 a.ed) (lal : a.al.length ≤ maxLen) (lmk : a.mr.length ≤ maxLen) (led : a.ed.length ≤ maxLen) :
    Calls Try.prog 21 #[a.val p] w (Tells (Few a) w) := by
  have B0 : Hid (Below w.heap.size w (w.alloc (.cells (auCells a p).toArray 39))) := Below.new _ _
  have C0 : Hid (HasAt w.heap.size (auCells a p) (w.alloc (.cells (auCells a p).toArray 39))) := HasAt.new w _ _ rfl
  have HP : Hid (a.al.length ≤ 10 → a.mr.length ≤ 10 → a.ed.length ≤ 10 → Au.At w a p) := fun g1 g2 g3 => ⟨h1, h2, h3, by omega, by omega, by omega⟩
  unfold maxLen at lal lmk led
  clear h1 h2 h3
  obtain ⟨al, n, mr, ed⟩ := a
  obtain ⟨A1, c1, A2, c2, A3, c3⟩ := p
  dsimp only [Au.val, auCells] at *
  have q0 := C0.out.c 0 _ rfl
  have q1 := C0.out.c 1 _ rfl
  have q2 := C0.out.c 2 _ rfl
  have q3 := C0.out.c 3 _ rfl
  go_enter Try.func21, Try.ntmps21
  generalize hW : w.alloc (.cells #[.slice A1 al.length c1, .int .i64 n, .slice A2 mr.length c2, .slice A3 ed.length c3] 39) = W at *
  by_cases h1 : 10 < al.length
  · have g1 : decide ((al.length : Int) ≤ 10) = false := by simp; omega
    subst hW
    go_wp2
    go_ret
    exact Tells.no (fun h => by have := h.l1; simp only at this; omega) B0.out
  have g1 : decide ((al.length : Int) ≤ 10) = true := by simp; omega
  by_cases h2 : 10 < mr.length
  · have g2 : decide ((mr.length : Int) ≤ 10) = false := by simp; omega
    subst hW
    go_wp2
    go_ret
    exact Tells.no (fun h => by have := h.l2; simp only at this; omega) B0.out
  have g2 : decide ((mr.length : Int) ≤ 10) = true := by simp; omega
  by_cases h3 : 10 < ed.length
  · have g3 : decide ((ed.length : Int) ≤ 10) = false := by simp; omega
    subst hW
    go_wp2
    go_ret
    exact Tells.no (fun h => by have := h.l3; simp only at this; omega) B0.out
  have g3 : decide ((ed.length : Int) ≤ 10) = true := by simp; omega
  by_cases h4 : n ≤ 40
  · have g4 : decide (n ≤ 40) = true := by simpa using h4
    subst hW
    go_wp2
    go_ret
    exact Tells.yes ⟨by simp only; omega, by simp only; omega, by simp only; omega, .inl h4⟩ B0.out
  have g4 : decide (n ≤ 40) = false := by simpa using h4
  subst hW
  go_wp2_with fail
  generalize hW : w.alloc (.cells #[.slice A1 al.length c1, .int .i64 n, .slice A2 mr.length c2, .slice A3 ed.length c3] 39) = W at *
  clear hW
  refine (Check_c ⟨al, n, mr, ed⟩ ⟨A1, c1, A2, c2, A3, c3⟩ W ((HP.out (by omega) (by omega) (by omega)).below B0.out)).mono ?_
  intro e w1 hs
  rcases hs.two with ⟨r, rfl, hr, HR, S1, hb⟩ | ⟨rfl, S1, hb⟩
  · have HB := Lib.hid (B0.out.trans (hb.mono B0.out.size))
    clear hs hb
    go_wp2
    go_ret
    have FW : Few ⟨al, n, mr, ed⟩ := ⟨by simp only; omega, by simp only; omega, by simp only; omega, .inr S1.out⟩
    exact ⟨r != 0, rfl, ⟨fun _ => FW, fun _ => by simpa using HR.out⟩, HB.out⟩
  · have HB := Lib.hid (B0.out.trans (hb.mono B0.out.size))
    clear hs hb
    go_wp2
    go_ret
    exact Tells.no (fun h => by rcases h.n with h | h; · simp only at h; omega
                                · exact h S1.out) HB.out

theorem empty_right {au : Au} (h : au.Right) : Au.Right ⟨au.al, 0, [], []⟩ := ⟨h.al, by simp, by simp, fun i x h => absurd h (by simp), fun i h => absurd h (by simp)⟩
set_option maxHeartbeats 2000000 in
/-- Supervisor at the empty automaton over the problem's alphabet, no origins. -/
theorem Supervisor0_c (au : Au) (forb unc : List Int) (p : PrP) (kept dist : List Int) (rms : List Rm) (cp : CeP) (w : World) (hp : PrAt w au forb unc p) (hc : CeAt w kept dist rms cp) (lE : au.ed.length ≤ 1000000) (hal : au.al.length ≤ 1048576) :
    Calls Try.prog 31 #[prVal au forb unc p, ceVal kept dist rms cp, .agg #[.slice p.a.A1 au.al.length p.a.c1, .int .i64 0, .slice none 0 0, .slice none 0 0], .slice none 0 0] w (Tells (KeptOk au forb unc kept dist rms ∧ ¬ (0 : Int) ∈ kept) w) := by
  have HP := Lib.hid hp
  have HC := Lib.hid hc
  clear hp hc
  obtain ⟨al, n, mr, ed⟩ := au
  obtain ⟨⟨A1, c1, A2, c2, A3, c3⟩, AF, cF, AU, cU⟩ := p
  obtain ⟨AK, cK, AD, cD, AR, cR⟩ := cp
  dsimp only [prVal, prCells, ceVal, ceCells] at *
  have W0 : Hid (Fro w.heap.size w (((w.alloc (.cells #[.slice A1 al.length c1, .int .i64 n, .slice A2 mr.length c2, .slice A3 ed.length c3, .slice AF forb.length cF, .slice AU unc.length cU] 78)).alloc (.cells #[.slice AK kept.length cK, .slice AD dist.length cD, .slice AR rms.length cR] 81)).alloc (.cells #[.slice A1 al.length c1, .int .i64 0, .slice none 0 0, .slice none 0 0] 39))) := (((Fro.here w).alloc _).alloc _).alloc _
  have P0 : Hid (HasAt w.heap.size [.slice A1 al.length c1, .int .i64 n, .slice A2 mr.length c2, .slice A3 ed.length c3, .slice AF forb.length cF, .slice AU unc.length cU] (((w.alloc (.cells #[.slice A1 al.length c1, .int .i64 n, .slice A2 mr.length c2, .slice A3 ed.length c3, .slice AF forb.length cF, .slice AU unc.length cU] 78)).alloc (.cells #[.slice AK kept.length cK, .slice AD dist.length cD, .slice AR rms.length cR] 81)).alloc (.cells #[.slice A1 al.length c1, .int .i64 0, .slice none 0 0, .slice none 0 0] 39))) := ((HasAt.new w _ _ rfl).alloc _).alloc _
  have K0 : Hid (HasAt (w.heap.size + 1) [.slice AK kept.length cK, .slice AD dist.length cD, .slice AR rms.length cR] (((w.alloc (.cells #[.slice A1 al.length c1, .int .i64 n, .slice A2 mr.length c2, .slice A3 ed.length c3, .slice AF forb.length cF, .slice AU unc.length cU] 78)).alloc (.cells #[.slice AK kept.length cK, .slice AD dist.length cD, .slice AR rms.length cR] 81)).alloc (.cells #[.slice A1 al.length c1, .int .i64 0, .slice none 0 0, .slice none 0 0] 39))) := (HasAt.new _ _ _ (by simp)).alloc _
  have S0 : Hid (HasAt (w.heap.size + 1 + 1) [.slice A1 al.length c1, .int .i64 0, .slice none 0 0, .slice none 0 0] (((w.alloc (.cells #[.slice A1 al.length c1, .int .i64 n, .slice A2 mr.length c2, .slice A3 ed.length c3, .slice AF forb.length cF, .slice AU unc.length cU] 78)).alloc (.cells #[.slice AK kept.length cK, .slice AD dist.length cD, .slice AR rms.length cR] 81)).alloc (.cells #[.slice A1 al.length c1, .int .i64 0, .slice none 0 0, .slice none 0 0] 39))) := HasAt.new _ _ _ (by simp)
  go_enter Try.func31, Try.ntmps31
  go_wp2_with fail
  generalize hW : (((w.alloc (.cells #[.slice A1 al.length c1, .int .i64 n, .slice A2 mr.length c2, .slice A3 ed.length c3, .slice AF forb.length cF, .slice AU unc.length cU] 78)).alloc (.cells #[.slice AK kept.length cK, .slice AD dist.length cD, .slice AR rms.length cR] 81)).alloc (.cells #[.slice A1 al.length c1, .int .i64 0, .slice none 0 0, .slice none 0 0] 39)) = W at *
  clear hW
  refine (Kept_c ⟨al, n, mr, ed⟩ forb unc ⟨⟨A1, c1, A2, c2, A3, c3⟩, AF, cF, AU, cU⟩ kept dist rms ⟨AK, cK, AD, cD, AR, cR⟩ W (HP.out.below W0.out.b) (HC.out.below W0.out.b) lE).mono ?_
  intro e w1 hs
  rcases hs.no1 with ⟨rfl, S, hb⟩ | ⟨rfl, S, hb⟩
  · have R1 := Lib.hid (W0.out.next hb)
    clear hs hb
    go_wp2
    go_ret
    exact Tells.no (fun h => S.out h.1) R1.out.b
  have R1 := Lib.hid (W0.out.next hb)
  have P1 := Lib.hid (P0.out.below hb)
  have K1 := Lib.hid (K0.out.below hb)
  have S1 := Lib.hid (S0.out.below hb)
  clear hs hb W0 P0 K0 S0
  have a0 := S1.out.c 0 _ rfl
  have a1 := S1.out.c 1 _ rfl
  have a2 := S1.out.c 2 _ rfl
  have a3 := S1.out.c 3 _ rfl
  go_wp2_with fail
  refine (Automaton_c ⟨al, 0, [], []⟩ ⟨A1, c1, none, 0, none, 0⟩ w1 ⟨(HP.out.below R1.out.b).au.al, SlAt.nil, SlAt.nil, by simp only; omega, by simp, by simp⟩).mono ?_
  intro e w2 hs
  obtain ⟨rfl, hb⟩ : e = .returned (.bool true) ∧ Below w1.heap.size w1 w2 := by
    obtain ⟨r, rfl, hr, hb⟩ := hs
    exact ⟨by rw [hr.2 (empty_right S.out.pr.ha)], hb⟩
  have R2 := Lib.hid (R1.out.next hb)
  have P2 := Lib.hid (P1.out.below hb)
  have K2 := Lib.hid (K1.out.below hb)
  have S2 := Lib.hid (S1.out.below hb)
  clear hs hb P1 K1 S1 a0 a1 a2 a3
  have a0 := S2.out.c 0 _ rfl
  have a1 := S2.out.c 1 _ rfl
  have b0 := P2.out.c 0 _ rfl
  go_wp2_with fail
  refine (equalI_c A1 A1 c1 c1 al al w2 (HP.out.below R2.out.b).au.al (HP.out.below R2.out.b).au.al (by omega) (by omega)).mono ?_
  rintro e w3 ⟨r, rfl, hr, hb⟩
  obtain rfl : r = true := hr.2 rfl
  have R3 := Lib.hid (R2.out.next hb)
  have K3 := Lib.hid (K2.out.below hb)
  have S3 := Lib.hid (S2.out.below hb)
  clear hr hb P2 K2 S2 a0 a1 b0
  have a1 := S3.out.c 1 _ rfl
  have k0 := K3.out.c 0 _ rfl
  go_wp2_with fail
  refine (has_c AK cK kept 0 w3 (HC.out.below R3.out.b).hk (by have := HC.out.lk; omega) S.out.dv.hk.incr).mono ?_
  intro e w4 hs
  rcases hs.no1 with ⟨rfl, N, rfl⟩ | ⟨rfl, N, rfl⟩
  · clear hs
    go_wp2
    go_ret
    exact Tells.yes ⟨S.out, N.out⟩ R3.out.b
  · clear hs
    go_wp2
    go_ret
    exact Tells.no (fun h => h.2 N.out) R3.out.b
end Go.Proofs.Ytkbmenpggiojeaa
