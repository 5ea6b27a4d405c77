/-
  The checker's look at distances, and at a blocking word.
-/
import Derived.Test.YtkbmenpggiojeaaKg
import Derived.Test.YtkbmenpggiojeaaMo
import Derived.Test.YtkbmenpggiojeaaKt
import Derived.Test.YtkbmenpggiojeaaMf
import Derived.Deep.RegionHeld3
namespace Go.Proofs.Ytkbmenpggiojeaa
open Go.RowKit
set_option linter.unusedSimpArgs false
set_option linter.unusedVariables false
set_option maxRecDepth 100000

def nearP (dist : List Int) (d : Int) (x : Ed) : Prop := ∃ d1, dist[x.dst.toNat]? = some d1 ∧ d1 < d
/-- What Nonblocking accepts. -/
structure NonbOk (a : Au) (dist : List Int) : Prop where
  r : a.Right
  l : (dist.length : Int) = a.n
  d : ∀ (i : Nat) (d : Int), dist[i]? = some d → 0 ≤ d ∧ (d = 0 → (i : Int) ∈ a.mr) ∧ (0 < d → ∃ x, x ∈ outOf a.ed i ∧ nearP dist d x)

set_option maxHeartbeats 400000 in
theorem nonb1_c (b3 b0 : Nat) (AD : Option Addr) (cD : Nat) (dist : List Int) (src ev : Int) (dst : Nat) (d d1 : Int) (w : World)
    (h3 : w.cell? ⟨b3, 0, none⟩ = some (.slice AD dist.length cD)) (z3 : b3 < w.heap.size) (hD : IntsAt w AD dist) (ld : dist.length ≤ 4096)
    (h0 : w.cell? ⟨b0, 0, none⟩ = some (.int .i64 d)) (z0 : b0 < w.heap.size) (hd : dist[dst]? = some d1) :
    Calls Try.prog 62 #[.agg #[.int .i64 src, .int .i64 ev, .int .i64 dst], .pointer (some ⟨b3, 0, none⟩), .pointer (some ⟨b0, 0, none⟩)] w (Tells (d1 < d) w) := by
  obtain ⟨b, o, rfl, l3, e3⟩ := IntsAt.get hD hd
  have hdl : dst < dist.length := (List.getElem?_eq_some_iff.1 hd).1
  clear hD hd
  go_enter Try.func62, Try.ntmps62
  go_wp2_with fail
  go_quiet (fail)
  go_wp2
  go_ret
  exact ⟨_, rfl, by simp, (Below.new _ _).draws _⟩

theorem nonbPred (w : World) (b3 b0 : Nat) (AD : Option Addr) (cD : Nat) (dist : List Int) (d : Int) (es : List Ed)
    (h3 : w.cell? ⟨b3, 0, none⟩ = some (.slice AD dist.length cD)) (z3 : b3 < w.heap.size) (hD : IntsAt w AD dist) (ld : dist.length ≤ 4096)
    (h0 : w.cell? ⟨b0, 0, none⟩ = some (.int .i64 d)) (z0 : b0 < w.heap.size) (hes : ∀ x, x ∈ es → 0 ≤ x.dst ∧ x.dst < dist.length) :
    PredOn Try.prog 62 #[.pointer (some ⟨b3, 0, none⟩), .pointer (some ⟨b0, 0, none⟩)] Ed.enc (nearP dist d) es w := by
  intro W x hx hb
  obtain ⟨g0, g1⟩ := hes x hx
  obtain ⟨src, ev, dst⟩ := x
  simp only at g0 g1
  obtain ⟨t, rfl⟩ := Int.eq_ofNat_of_zero_le g0
  have ht : t < dist.length := by omega
  refine (nonb1_c b3 b0 AD cD dist src ev t d dist[t] W (old_cell hb h3 z3) (Nat.lt_of_lt_of_le z3 hb.size) (hD.below IntE.stays hb) ld (old_cell hb h0 z0) (Nat.lt_of_lt_of_le z0 hb.size) (List.getElem?_eq_getElem ht)).mono ?_
  rintro e w' ⟨r, rfl, hr, hb'⟩
  refine ⟨r, rfl, ?_, hb'⟩
  rw [hr]
  simp only [nearP, Int.toNat_natCast, List.getElem?_eq_getElem ht, Option.some.injEq]
  exact ⟨fun h => ⟨_, rfl, h⟩, fun ⟨_, h1, h2⟩ => by rw [h1]; exact h2⟩

set_option maxHeartbeats 1000000 in
theorem Nonblocking_c (a : Au) (p : AuP) (AD : Option Addr) (cD : Nat) (dist : List Int) (w : World) (h : Au.At w a p) (hD : IntsAt w AD dist) (ld : dist.length ≤ 140737488355328) (lE : a.ed.length ≤ 1000000) :
    Calls Try.prog 24 #[a.val p, .slice AD dist.length cD] w (Tells (NonbOk a dist) w) := by
  have W0 : Hid (Fro w.heap.size w ((w.alloc (.cells (auCells a p).toArray 39)).alloc (.cells #[.slice AD dist.length cD] 36))) := ((Fro.here w).alloc _).alloc _
  have C1 : Hid (HasAt w.heap.size (auCells a p) ((w.alloc (.cells (auCells a p).toArray 39)).alloc (.cells #[.slice AD dist.length cD] 36))) := (HasAt.new w _ _ rfl).alloc _
  have C2 : Hid (HasAt (w.heap.size + 1) [.slice AD dist.length cD] ((w.alloc (.cells (auCells a p).toArray 39)).alloc (.cells #[.slice AD dist.length cD] 36))) := HasAt.new _ _ _ (by simp)
  have HP := Lib.hid h
  have HD := Lib.hid hD
  clear h hD
  obtain ⟨al, n, mr, ed⟩ := a
  obtain ⟨A1, c1, A2, c2, A3, c3⟩ := p
  dsimp only [Au.val, auCells] at *
  go_enter Try.func24, Try.ntmps24
  go_wp2_with fail
  generalize hW : ((w.alloc (.cells #[.slice A1 al.length c1, .int .i64 n, .slice A2 mr.length c2, .slice A3 ed.length c3] 39)).alloc (.cells #[.slice AD dist.length cD] 36)) = W at *
  clear hW
  refine (Automaton_c ⟨al, n, mr, ed⟩ ⟨A1, c1, A2, c2, A3, c3⟩ W (HP.out.below W0.out.b)).mono ?_
  intro e w1 hs
  rcases hs.no1 with ⟨rfl, S, hb⟩ | ⟨rfl, S, hb⟩
  · have R1 := Lib.hid (W0.out.next hb)
    clear hs hb
    go_wp2
    go_ret
    exact Tells.no (fun h => S.out h.r) R1.out.b
  have R1 := Lib.hid (W0.out.next hb)
  have D1 := Lib.hid (C1.out.below hb)
  have E1 := Lib.hid (C2.out.below hb)
  clear hs hb W0 C1 C2
  have q0 := D1.out.c 0 _ rfl
  have q1 := D1.out.c 1 _ rfl
  have q2 := D1.out.c 2 _ rfl
  have q3 := D1.out.c 3 _ rfl
  have r0 := E1.out.c 0 _ rfl
  have hn0 := S.out.n0
  have hn1 := S.out.n1
  simp only at hn0 hn1
  by_cases hl : (dist.length : Int) = n
  rotate_left
  · have hl' : ((dist.length : Int) != n) = true := by simpa using hl
    have HL := Lib.hid hl
    clear hl
    go_wp2
    go_ret
    exact Tells.no (fun h => HL.out h.l) R1.out.b
  subst hl
  go_wp2_with fail
  refine (outgoing_c dist.length al mr ed ⟨A1, c1, A2, c2, A3, c3⟩ w1 (by omega) (HP.out.below R1.out.b).ed lE (fun x hx => by
    obtain ⟨t, ht, rfl⟩ := List.mem_iff_getElem.1 hx
    have := S.out.ed t ht _ (List.getElem?_eq_getElem ht)
    exact ⟨this.1, this.2.1⟩)).mono ?_
  rintro e w2 ⟨bo, rfl, hbo, hro, hb⟩
  have RO := Lib.hid hro
  have R2 := Lib.hid (R1.out.next hb)
  have D2 := Lib.hid (D1.out.below hb)
  have E2 := Lib.hid (E1.out.below hb)
  have HBO := Lib.hid hbo
  clear hb hro hbo D1 E1 R1 q0 q1 q2 q3 r0
  have r0 := E2.out.c 0 _ rfl
  go_wp2_with fail
  go_loopw [22] (fun i wr => ∃ k : Nat, k ≤ dist.length ∧ i = .int .i64 k ∧ Hid (Fro w2.heap.size w2 wr) ∧ Hid (∀ (i : Nat) (d : Int), i < k → dist[i]? = some d → 0 ≤ d ∧ (d = 0 → (i : Int) ∈ mr) ∧ (0 < d → ∃ x, x ∈ outOf ed i ∧ nearP dist d x))) (fun i _ => dist.length - (intOf i).toNat)
  case atStart => exact ⟨0, by omega, rfl, Fro.here w2, fun i d h => absurd h (by omega)⟩
  case round =>
    obtain ⟨k, hk, rfl, BW, HK⟩ := hrel
    have WF := Lib.hid (R2.out.next BW.out.b)
    have D3 := Lib.hid (D2.out.below BW.out.b)
    have E3 := Lib.hid (E2.out.below BW.out.b)
    clear r0
    by_cases hlt : k < dist.length
    · obtain ⟨d, hd⟩ : ∃ d, dist[k]? = some d := ⟨_, List.getElem?_eq_getElem hlt⟩
      obtain ⟨bD, oD, hAD, lD, eD⟩ := IntsAt.get (HD.out.below IntE.stays WF.out.b) hd
      subst hAD
      have HX := Lib.hid hd
      clear hd
      have stepK : Hid ((0 ≤ d ∧ (d = 0 → (k : Int) ∈ mr) ∧ (0 < d → ∃ x, x ∈ outOf ed k ∧ nearP dist d x)) → ∀ (i : Nat) (d : Int), i < k + 1 → dist[i]? = some d → 0 ≤ d ∧ (d = 0 → (i : Int) ∈ mr) ∧ (0 < d → ∃ x, x ∈ outOf ed i ∧ nearP dist d x)) := fun h i d' hi hd' => by
        by_cases e : i = k
        · subst e; rw [HX.out] at hd'; cases hd'; exact h
        · exact HK.out i d' (by omega) hd'
      have BN : Hid (Fro w2.heap.size w2 (wr.alloc (.cells #[.int .i64 d] 3))) := BW.out.alloc _
      have WN : Hid (Fro w.heap.size w (wr.alloc (.cells #[.int .i64 d] 3))) := WF.out.alloc _
      have q2 := D3.out.c 2 _ rfl
      have r0 := E3.out.c 0 _ rfl
      have z0 := D3.out.z
      have z1 := E3.out.z
      by_cases g1 : d < 0
      · have g1' : decide (d < 0) = true := by simpa using g1
        go_wp2
        go_ret
        exact Tells.no (fun h => by have := (h.d k d HX.out).1; omega) WN.out.b
      have g1' : decide (d < 0) = false := by simpa using g1
      by_cases g2 : d = 0
      · subst g2
        go_wp2_with fail
        refine (has_c A2 c2 mr k _ ((HP.out.below WN.out.b).mr) (by have := HP.out.lmk; simp only at this; omega) S.out.mr.incr).mono ?_
        intro e w3 hs
        rcases hs.no1 with ⟨rfl, T, rfl⟩ | ⟨rfl, T, rfl⟩
        · clear hs
          go_wp2
          go_ret
          exact Tells.no (fun h => T.out ((h.d k 0 HX.out).2.1 rfl)) WN.out.b
        · clear hs
          go_wp2
          go_roundw
          case rel => exact ⟨k + 1, by omega, by go_num, BN.out, stepK.out ⟨by omega, fun _ => T.out, fun h => absurd h (by omega)⟩⟩
          case measure => simp [intOf]; omega
      · have g2' : (d == 0) = false := by simpa using g2
        have g3 : decide (0 < d) = true := by simp; omega
        obtain ⟨AR, cR, hbz, hrc, hrl, hre⟩ := RowsAt.row (RO.out.below (RowE.stays EdE.stays) BW.out.b) hlt
        have RE := Lib.hid hre
        clear hre
        have CN : Hid ((wr.alloc (.cells #[.int .i64 d] 3)).cell? ⟨wr.heap.size, 0, none⟩ = some (.int .i64 d)) := new_cell wr _ [_] _ 0 rfl
        have NP := Lib.hid (nonbPred (wr.alloc (.cells #[.int .i64 d] 3)) (w.heap.size + 1) wr.heap.size (some ⟨bD, oD, none⟩) cD dist d (outOf ed k) ((E3.out.alloc _).c 0 _ rfl) (E3.out.alloc _).z (HD.out.below IntE.stays WN.out.b) (by omega) CN.out (by simp) (fun x hx => by
          obtain ⟨hm, _⟩ := (show x ∈ ed ∧ x.src = (k : Int) by simpa [outOf] using hx)
          obtain ⟨t, ht, rfl⟩ := List.mem_iff_getElem.1 hm
          have := S.out.ed t ht _ (List.getElem?_eq_getElem ht)
          exact ⟨this.2.2.1, this.2.2.2.1⟩))
        go_wp2_with fail
        refine (containsE_c 62 _ (enters_of Try.func62 (by kernel_rfl) rfl) (nearP dist d) AR cR (outOf ed k) _ (RE.out.below EdE.stays (Below.new _ _)) hrl NP.out).mono ?_
        intro e w3 hs
        rcases hs.no1 with ⟨rfl, T, hb3⟩ | ⟨rfl, T, hb3⟩
        · have WL := Lib.hid (WN.out.next hb3)
          clear hs hb3
          go_wp2
          go_ret
          exact Tells.no (fun h => T.out ((h.d k d HX.out).2.2 (by omega))) WL.out.b
        · have BL := Lib.hid (BN.out.next hb3)
          clear hs hb3
          go_wp2
          go_roundw
          case rel => exact ⟨k + 1, by omega, by go_num, BL.out, stepK.out ⟨by omega, fun h => absurd h g2, fun _ => T.out⟩⟩
          case measure => simp [intOf]; omega
    · obtain rfl : k = dist.length := by omega
      go_wp2
      go_ret
      exact Tells.yes ⟨S.out, rfl, fun i d h => HK.out i d (List.getElem?_eq_some_iff.1 h).1 h⟩ WF.out.b

/-- What Blocking accepts. -/
structure BlockOk (a : Au) (wd dead : List Int) : Prop where
  r : a.Right
  s : setOk dead a.n dead.length
  n : a.n ≠ 0
  lv : ¬ ∃ x, x ∈ a.ed ∧ (x.src ∈ dead ∧ x.dst ∉ dead)
  mkd : ¬ ∃ i, i ∈ dead ∧ i ∈ a.mr
  f : followV (stepOf a.ed) 0 wd ∈ dead

set_option maxHeartbeats 400000 in
theorem block1_c (b5 : Nat) (AS : Option Addr) (cS : Nat) (dead : List Int) (x : Ed) (w : World)
    (h5 : w.cell? ⟨b5, 0, none⟩ = some (.slice AS dead.length cS)) (z5 : b5 < w.heap.size) (hS : IntsAt w AS dead) (ld : dead.length ≤ 140737488355328) (hi : incr dead) :
    Calls Try.prog 63 #[x.enc, .pointer (some ⟨b5, 0, none⟩)] w (Tells (x.src ∈ dead ∧ x.dst ∉ dead) w) := by
  obtain ⟨src, ev, dst⟩ := x
  have HS := Lib.hid hS
  have HI := Lib.hid hi
  clear hS hi
  have BN : Hid (Fro w.heap.size w (w.alloc (.cells #[.int .i64 src, .int .i64 ev, .int .i64 dst] 73))) := (Fro.here w).alloc _
  dsimp only [Ed.enc] at *
  go_enter Try.func63, Try.ntmps63
  go_wp2_with fail
  refine (has_c AS cS dead src _ (HS.out.below IntE.stays BN.out.b) (by omega) HI.out).mono ?_
  intro e w3 hs
  rcases hs.no1 with ⟨rfl, T, rfl⟩ | ⟨rfl, T, rfl⟩
  · clear hs
    go_wp2
    go_ret
    exact Tells.no (fun h => T.out h.1) BN.out.b
  · clear hs
    go_wp2_with fail
    refine (has_c AS cS dead dst _ (HS.out.below IntE.stays BN.out.b) (by omega) HI.out).mono ?_
    intro e w3 hs
    rcases hs.no1 with ⟨rfl, T2, rfl⟩ | ⟨rfl, T2, rfl⟩
    · clear hs
      go_wp2
      go_ret
      exact Tells.yes ⟨T.out, T2.out⟩ BN.out.b
    · clear hs
      go_wp2
      go_ret
      exact Tells.no (fun h => h.2 T2.out) BN.out.b

set_option maxHeartbeats 400000 in
theorem block2_c (b3 : Nat) (A2 : Option Addr) (c2 : Nat) (mr : List Int) (i : Int) (w : World)
    (h3 : w.cell? ⟨b3, 2, none⟩ = some (.slice A2 mr.length c2)) (z3 : b3 < w.heap.size) (hM : IntsAt w A2 mr) (lm : mr.length ≤ 140737488355328) (hi : incr mr) :
    Calls Try.prog 64 #[.int .i64 i, .pointer (some ⟨b3, 0, none⟩)] w (Tells (i ∈ mr) w) := by
  have HS := Lib.hid hM
  have HI := Lib.hid hi
  clear hM hi
  go_enter Try.func64, Try.ntmps64
  go_wp2_with fail
  refine (has_c A2 c2 mr i _ HS.out (by omega) HI.out).mono ?_
  rintro e w3 ⟨r, rfl, hr, rfl⟩
  have HR := Lib.hid hr
  clear hr
  go_wp2
  go_ret
  exact ⟨r, rfl, HR.out, Below.refl _ _⟩

set_option maxHeartbeats 2000000 in
theorem Blocking_c (a : Au) (p : AuP) (AW AS : Option Addr) (cW cS : Nat) (wd dead : List Int) (w : World) (h : Au.At w a p) (hW : IntsAt w AW wd) (lw : wd.length ≤ 140737488355328) (hS : IntsAt w AS dead) (ls : dead.length ≤ 140737488355328) :
    Calls Try.prog 25 #[a.val p, .slice AW wd.length cW, .slice AS dead.length cS] w (Tells (BlockOk a wd dead) w) := by
  have W0 : Hid (Fro w.heap.size w ((w.alloc (.cells (auCells a p).toArray 39)).alloc (.cells #[.slice AS dead.length cS] 36))) := ((Fro.here w).alloc _).alloc _
  have C1 : Hid (HasAt w.heap.size (auCells a p) ((w.alloc (.cells (auCells a p).toArray 39)).alloc (.cells #[.slice AS dead.length cS] 36))) := (HasAt.new w _ _ rfl).alloc _
  have C2 : Hid (HasAt (w.heap.size + 1) [.slice AS dead.length cS] ((w.alloc (.cells (auCells a p).toArray 39)).alloc (.cells #[.slice AS dead.length cS] 36))) := HasAt.new _ _ _ (by simp)
  have HP := Lib.hid h
  have HW := Lib.hid hW
  have HS := Lib.hid hS
  have led := h.led
  have lmk := h.lmk
  clear h hW hS
  obtain ⟨al, n, mr, ed⟩ := a
  obtain ⟨A1, c1, A2, c2, A3, c3⟩ := p
  dsimp only [Au.val, auCells] at *
  go_enter Try.func25, Try.ntmps25
  go_wp2_with fail
  generalize hW : ((w.alloc (.cells #[.slice A1 al.length c1, .int .i64 n, .slice A2 mr.length c2, .slice A3 ed.length c3] 39)).alloc (.cells #[.slice AS dead.length cS] 36)) = W at *
  clear hW
  refine (Automaton_c ⟨al, n, mr, ed⟩ ⟨A1, c1, A2, c2, A3, c3⟩ W (HP.out.below W0.out.b)).mono ?_
  intro e w1 hs
  rcases hs.no1 with ⟨rfl, S, hb⟩ | ⟨rfl, S, hb⟩
  · have R1 := Lib.hid (W0.out.next hb)
    clear hs hb
    go_wp2
    go_ret
    exact Tells.no (fun h => S.out h.r) R1.out.b
  have R1 := Lib.hid (W0.out.next hb)
  have D1 := Lib.hid (C1.out.below hb)
  have E1 := Lib.hid (C2.out.below hb)
  clear hs hb W0 C1 C2
  have q1 := D1.out.c 1 _ rfl
  have q3 := D1.out.c 3 _ rfl
  have r0 := E1.out.c 0 _ rfl
  go_wp2_with fail
  refine (set_c AS cS dead n w1 (HS.out.below IntE.stays R1.out.b) (by unfold maxLen; omega)).mono ?_
  intro e w2 hs
  rcases hs.no1 with ⟨rfl, S2, rfl⟩ | ⟨rfl, S2, rfl⟩
  · clear hs
    go_wp2
    go_ret
    exact Tells.no (fun h => S2.out h.s) R1.out.b
  clear hs
  by_cases hn : n = 0
  · subst hn
    go_wp2
    go_ret
    exact Tells.no (fun h => h.n rfl) R1.out.b
  have hn' : (n == 0) = false := by simpa using hn
  have HN := Lib.hid hn
  clear hn
  have P1 : Hid (PredOn Try.prog 63 #[.pointer (some ⟨w.heap.size + 1, 0, none⟩)] Ed.enc (fun x => x.src ∈ dead ∧ x.dst ∉ dead) ed w1) := fun V x _ hb =>
    block1_c (w.heap.size + 1) AS cS dead x V ((E1.out.below hb).c 0 _ rfl) (E1.out.below hb).z (HS.out.below IntE.stays (R1.out.next hb).b) ls S2.out.incr
  go_wp2_with fail
  refine (containsE_c 63 _ (enters_of Try.func63 (by kernel_rfl) rfl) _ A3 c3 ed w1 (HP.out.below R1.out.b).ed led P1.out).mono ?_
  rintro e w3 ⟨lv, rfl, hlv, hb⟩
  have LV := Lib.hid hlv
  have R3 := Lib.hid (R1.out.next hb)
  have D3 := Lib.hid (D1.out.below hb)
  have E3 := Lib.hid (E1.out.below hb)
  clear hlv hb q1 q3 r0 D1 E1 R1 P1
  have r0 := E3.out.c 0 _ rfl
  have P2 : Hid (PredOn Try.prog 64 #[.pointer (some ⟨w.heap.size, 0, none⟩)] (Value.int .i64) (fun i => i ∈ mr) dead w3) := fun V i _ hb =>
    block2_c w.heap.size A2 c2 mr i V ((D3.out.below hb).c 2 _ rfl) (D3.out.below hb).z ((HP.out.below (R3.out.next hb).b).mr) lmk S.out.mr.incr
  go_wp2_with fail
  refine (containsI_c 64 _ (enters_of Try.func64 (by kernel_rfl) rfl) _ AS cS dead w3 (HS.out.below IntE.stays R3.out.b) ls P2.out).mono ?_
  rintro e w4 ⟨mk, rfl, hmk, hb⟩
  have MK := Lib.hid hmk
  have R4 := Lib.hid (R3.out.next hb)
  have D4 := Lib.hid (D3.out.below hb)
  have E4 := Lib.hid (E3.out.below hb)
  clear hmk hb r0 D3 E3 R3 P2
  cases lv
  rotate_left
  · go_wp2_with fail
    go_quiet (fail)
    go_wp2
    go_ret
    exact Tells.no (fun h => h.lv (LV.out.1 (by simp))) (R4.out.draws _).b
  cases mk
  rotate_left
  · go_wp2_with fail
    go_quiet (fail)
    go_wp2
    go_ret
    exact Tells.no (fun h => h.mkd (MK.out.1 (by simp))) (R4.out.draws _).b
  have SC : Hid (∀ V, Fro w4.heap.size w4 V → V.cell? ⟨w.heap.size, 0, none⟩ = some (.slice A1 al.length c1) ∧ V.cell? ⟨w.heap.size, 1, none⟩ = some (.int .i64 n) ∧ V.cell? ⟨w.heap.size, 2, none⟩ = some (.slice A2 mr.length c2) ∧ V.cell? ⟨w.heap.size, 3, none⟩ = some (.slice A3 ed.length c3) ∧ V.cell? ⟨w.heap.size + 1, 0, none⟩ = some (.slice AS dead.length cS)) := fun V hb =>
    ⟨(D4.out.below hb.b).c 0 _ rfl, (D4.out.below hb.b).c 1 _ rfl, (D4.out.below hb.b).c 2 _ rfl, (D4.out.below hb.b).c 3 _ rfl, (E4.out.below hb.b).c 0 _ rfl⟩
  have sc := SC.out w4 (Fro.here w4)
  have T0 : Hid (Fro w4.heap.size w4 w4.drew) := (Fro.here w4).drew
  have HSt : Hid (∀ V, Fro w4.heap.size w4 V → Calls Try.prog 42 #[.agg #[.slice A1 al.length c1, .int .i64 n, .slice A2 mr.length c2, .slice A3 ed.length c3]] V (Maps key2 (stepOf ed) V)) := fun V hb =>
    steps_c ⟨al, n, mr, ed⟩ ⟨A1, c1, A2, c2, A3, c3⟩ V (HP.out.below (R4.out.next hb.b).b).ed led
  have HFo : Hid (∀ V b, Fro w4.heap.size w4 V → MapAt key2 V b (stepOf ed) → Calls Try.prog 43 #[.map (some b), .int .i64 0, .slice AW wd.length cW] V fun r w' => r = .returned (.int .i64 (followV (stepOf ed) 0 wd)) ∧ V = w') := fun V b hb hm =>
    follow_c b (stepOf ed) 0 AW cW wd V hm (HW.out.below IntE.stays (R4.out.next hb.b).b) lw
  have HHa : Hid (∀ V x, Fro w4.heap.size w4 V → Calls Try.prog 60 #[.slice AS dead.length cS, .int .i64 x] V (Says (x ∈ dead) V)) := fun V x hb =>
    has_c AS cS dead x V (HS.out.below IntE.stays (R4.out.next hb.b).b) (by omega) S2.out.incr
  go_wp2_with fail
  generalize hfw : followV (stepOf ed) 0 wd = fw at *
  have HFW := Lib.hid hfw
  clear hfw
  go_region_held3 (fun V => V.cell? ⟨w.heap.size, 0, none⟩ = some (.slice A1 al.length c1) ∧ V.cell? ⟨w.heap.size, 1, none⟩ = some (.int .i64 n) ∧ V.cell? ⟨w.heap.size, 2, none⟩ = some (.slice A2 mr.length c2) ∧ V.cell? ⟨w.heap.size, 3, none⟩ = some (.slice A3 ed.length c3) ∧ V.cell? ⟨w.heap.size + 1, 0, none⟩ = some (.slice AS dead.length cS))
    (first | exact SC.out _ T1.out | exact SC.out _ T0.out | exact SC.out _ (Fro.here w4) | go_keep) (
    first | (go_at_call 42; ((with_reducible refine (HSt.out _ T0.out).mono ?_); rintro e w5 ⟨bm, rfl, hz, hm, hb⟩; have HM := Lib.hid hm; have T1 := Lib.hid (T0.out.next hb); clear hz hm hb))
          | (go_at_call 43; ((with_reducible refine (HFo.out _ _ T1.out HM.out).mono ?_); rintro e w6 ⟨rfl, rfl⟩))
          | (go_at_call 60; ((with_reducible refine (HHa.out _ _ T1.out).mono ?_); rintro e w6 ⟨r, rfl, hr, rfl⟩; have HR := Lib.hid hr; clear hr)))
  go_wp2
  go_ret
  exact ⟨r, rfl, by rw [HR.out]; exact ⟨fun h => ⟨S.out, S2.out, HN.out, fun h => by have := LV.out.2 h; simp at this, fun h => by have := MK.out.2 h; simp at this, by rw [HFW.out]; exact h⟩, fun h => by have := h.f; rw [HFW.out] at this; exact this⟩, (R4.out.next T1.out.b).b⟩
end Go.Proofs.Ytkbmenpggiojeaa
