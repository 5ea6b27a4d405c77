/-
  The checker's twin: all moves from a pair.
-/
import Derived.Test.YtkbmenpggiojeaaLb
import Derived.Test.YtkbmenpggiojeaaKt
import Derived.StillTailTactics
namespace Go.Proofs.Ytkbmenpggiojeaa
open Go.RowKit
set_option linter.unusedSimpArgs false
set_option linter.unusedVariables false

def evAt (evs : List Ev) (e : Int) : Ev := match evs[e.toNat]? with
  | some z => z
  | none => ⟨.empty, false, false, false, 0⟩
theorem evAt_get {evs : List Ev} {t : Nat} {z : Ev} (h : evs[t]? = some z) : evAt evs (t : Int) = z := by simp [evAt, h]

def move1 (f : Ranks) (bound class_ : Int) (evs : List Ev) (p : Pa) (x : Ed) : Prop := (evAt evs x.ev).obs = false → leadsP f bound ((evAt evs x.ev).fault = class_) p.rk x.dst p.snd true
def move2 (f : Ranks) (bound class_ : Int) (evs : List Ev) (p : Pa) (y : Ed) : Prop := (evAt evs y.ev).obs = false → (evAt evs y.ev).fault ≠ class_ → leadsP f bound ((evAt evs y.ev).fault = class_) p.rk p.fst y.dst false
def move3 (f : Ranks) (bound class_ : Int) (evs : List Ev) (p : Pa) (x y : Ed) : Prop := x.ev = y.ev → (evAt evs x.ev).obs = true → leadsP f bound ((evAt evs x.ev).fault = class_) p.rk x.dst y.dst true
structure PairOk (f : Ranks) (bound class_ : Int) (evs : List Ev) (ed : List Ed) (p : Pa) : Prop where
  m1 : ∀ x, x ∈ outOf ed p.fst.toNat → move1 f bound class_ evs p x
  m2 : ∀ y, y ∈ outOf ed p.snd.toNat → move2 f bound class_ evs p y
  m3 : ∀ x, x ∈ outOf ed p.fst.toNat → ∀ y, y ∈ outOf ed p.snd.toNat → move3 f bound class_ evs p x y

theorem all_get {α : Type} {P : α → Prop} {l : List α} (h : ∀ j y, j < l.length → l[j]? = some y → P y) : ∀ y, y ∈ l → P y := fun y hy => by
  obtain ⟨j, hj, rfl⟩ := List.mem_iff_getElem.1 hy
  exact h j _ hj (List.getElem?_eq_getElem hj)
theorem all_step {α : Type} {P : α → Prop} {l : List α} {k : Nat} {x : α} (h : ∀ j y, j < k → l[j]? = some y → P y) (hx : l[k]? = some x) (hp : P x) : ∀ j y, j < k + 1 → l[j]? = some y → P y := fun j y hj hy => by
  by_cases e : j = k
  · subst e; rw [hx] at hy; cases hy; exact hp
  · exact h j y (by omega) hy
/-- The three cells of the pair. -/
structure PaAt (w : World) (b : Nat) (p : Pa) : Prop where
  c0 : w.cell? ⟨b, 0, none⟩ = some (.int .i64 p.fst)
  c1 : w.cell? ⟨b, 1, none⟩ = some (.int .i64 p.snd)
  c2 : w.cell? ⟨b, 2, none⟩ = some (.int .i64 p.rk)
  z : b < w.heap.size
theorem PaAt.below {w w' : World} {b : Nat} {p : Pa} (h : PaAt w b p) (hb : Below w.heap.size w w') : PaAt w' b p :=
  ⟨old_cell hb h.c0 h.z, old_cell hb h.c1 h.z, old_cell hb h.c2 h.z, Nat.lt_of_lt_of_le h.z hb.size⟩

set_option maxRecDepth 100000 in
set_option maxHeartbeats 4000000 in
theorem pair_c (bt bm : Nat) (AE : Option Addr) (cE : Nat) (evs : List Ev) (class_ bound : Int) (bo cO n : Nat) (ed : List Ed) (f : Ranks) (i k : Nat) (rk : Int) (w : World)
    (h : TwAt w bt bm AE cE evs class_ bound (some ⟨bo, 0, none⟩) cO n ed f) (hi : i < n) (hk : k < n) (hn : n ≤ 4096) (lev : evs.length ≤ 140737488355328) (hed : ∀ x, x ∈ ed → 0 ≤ x.ev ∧ x.ev < evs.length) :
    Calls Try.prog 39 #[.pointer (some ⟨bt, 0, none⟩), .agg #[.int .i64 i, .int .i64 k, .int .i64 rk]] w (Tells (PairOk f bound class_ evs ed ⟨i, k, rk⟩) w) := by
  have T0 := Lib.hid (h.below (Below.new w (.cells #[.int .i64 (i : Int), .int .i64 (k : Int), .int .i64 rk] 46)))
  have P0 := Lib.hid (PaAt.mk (b := w.heap.size) (p := ⟨i, k, rk⟩) (new_cell w 46 [.int .i64 (i : Int), .int .i64 (k : Int), .int .i64 rk] _ 0 rfl) (new_cell w _ [_, _, _] _ 1 rfl) (new_cell w _ [_, _, _] _ 2 rfl) (by simp))
  have B0 := Lib.hid (Below.new w (.cells #[.int .i64 (i : Int), .int .i64 (k : Int), .int .i64 rk] 46))
  have HEV := Lib.hid (show ∀ (j : Nat) (x : Ed), x ∈ outOf ed j → 0 ≤ x.ev ∧ x.ev < evs.length from fun j x hx => hed x (List.mem_filter.1 hx).1)
  clear h hed
  go_enter Try.func39, Try.ntmps39
  go_wp2_with fail
  generalize hW : w.alloc (.cells #[.int .i64 (i : Int), .int .i64 (k : Int), .int .i64 rk] 46) = W0 at *
  clear hW
  have a0 := T0.out.c0
  have a3 := T0.out.c3
  have zt := T0.out.z
  have pc0 := P0.out.c0
  have pc1 := P0.out.c1
  have pc2 := P0.out.c2
  have zp := P0.out.z
  obtain ⟨A1, c1, hbo, hrow1, lE1, hE1⟩ := RowsAt.row T0.out.rows hi
  have HE1 := Lib.hid hE1
  clear hE1
  go_wp2_with fail
  go_quiet (fail)
  have BQ1 := Lib.hid ((Below.refl W0.heap.size W0).draws nq)
  go_wp2_with fail
  generalize hW : W0.drewN nq = W1 at *
  clear hW a0 a3 zt pc0 pc1 pc2 zp hbo hrow1
  have T1 := Lib.hid (T0.out.below BQ1.out)
  have P1 := Lib.hid (P0.out.below BQ1.out)
  have BW1 := Lib.hid (B0.out.trans (BQ1.out.mono B0.out.size))
  have HE1' := Lib.hid (HE1.out.below EdE.stays BQ1.out)
  clear HE1 BQ1 T0 P0 B0
  go_loopw [22] (fun a wr => ∃ m : Nat, m ≤ (outOf ed i).length ∧ a = .int .i64 m ∧ Hid (Below W1.heap.size W1 wr) ∧ Hid (∀ (j : Nat) (y : Ed), j < m → (outOf ed i)[j]? = some y → move1 f bound class_ evs ⟨i, k, rk⟩ y)) (fun a _ => (outOf ed i).length - (intOf a).toNat)
  case atStart => exact ⟨0, by omega, rfl, Below.refl _ _, fun j y h => absurd h (by omega)⟩
  case round =>
    obtain ⟨m, hm, rfl, BR, HM⟩ := hrel
    have TR := Lib.hid (T1.out.below BR.out)
    have PR := Lib.hid (P1.out.below BR.out)
    have BWR := Lib.hid (BW1.out.trans (BR.out.mono BW1.out.size))
    by_cases hlt : m < (outOf ed i).length
    · obtain ⟨b, off, x, hA, hb, hx, e0, e1, e2⟩ := EdsAt.at (HE1'.out.below EdE.stays BR.out) hlt
      have hxe := HEV.out i x (List.mem_of_getElem? hx)
      obtain ⟨src, ev, dst⟩ := x
      obtain ⟨t, rfl⟩ := Int.eq_ofNat_of_zero_le hxe.1
      have hte : t < evs.length := by have := hxe.2; simp only at this; omega
      clear hxe
      subst hA
      dsimp only at e0 e1 e2
      obtain ⟨z, hz⟩ : ∃ z, evs[t]? = some z := ⟨_, List.getElem?_eq_getElem hte⟩
      have HZ := Lib.hid hz
      have HX := Lib.hid hx
      clear hz hx
      go_wp2
      have BN := Lib.hid (Below.new wr (.cells #[.int .i64 src, .int .i64 (t : Int), .int .i64 dst] 73))
      have x1 := new_cell wr 73 [.int .i64 src, .int .i64 (t : Int), .int .i64 dst] _ 1 rfl
      have x2 := new_cell wr 73 [.int .i64 src, .int .i64 (t : Int), .int .i64 dst] _ 2 rfl
      have zx : wr.heap.size < (wr.alloc (.cells #[.int .i64 src, .int .i64 (t : Int), .int .i64 dst] 73)).heap.size := by simp
      clear e0 e1 e2
      generalize hW : wr.alloc (.cells #[.int .i64 src, .int .i64 (t : Int), .int .i64 dst] 73) = W at *
      clear hW
      have TW := Lib.hid (TR.out.below BN.out)
      have PW := Lib.hid (PR.out.below BN.out)
      have a0 := TW.out.c0
      have a3 := TW.out.c3
      have zt := TW.out.z
      have pc0 := PW.out.c0
      have pc1 := PW.out.c1
      have pc2 := PW.out.c2
      have zp := PW.out.z
      obtain ⟨be, oe, hAE, hbe, g2, g4⟩ := EvsAt.get TW.out.ev HZ.out
      subst hAE
      go_cut [47] (fun a wx => ∃ bb : Bool, a = .bool bb ∧ Hid (bb = false ↔ move1 f bound class_ evs ⟨i, k, rk⟩ ⟨src, t, dst⟩) ∧ Hid (Below W.heap.size W wx))
      case first =>
        cases hobs : z.obs with
        | true =>
          rw [hobs] at g2
          have YES := Lib.hid (show move1 f bound class_ evs ⟨i, k, rk⟩ ⟨src, t, dst⟩ from fun h => by rw [evAt_get HZ.out, hobs] at h; cases h)
          clear hobs
          go_quiet (fail)
          go_wp2_with fail
          go_meet
          exact ⟨false, rfl, ⟨fun _ => YES.out, fun _ => rfl⟩, (Below.refl _ _).draws _⟩
        | false =>
          rw [hobs] at g2
          have HOB := Lib.hid hobs
          clear hobs
          go_still_tail 19, (by kernel_rfl)
          change wpList _ _ _ _ _ W.drew
          go_wp2_with fail
          refine (leads_c bt bm _ cE evs class_ bound (some ⟨bo, 0, none⟩) cO n ed f ⟨i, k, rk⟩ dst k t z true _ (TW.out.below (Below.refl _ W).drew) HZ.out lev).mono ?_
          intro e w2 hs
          rcases hs.no1 with ⟨rfl, S, hb2⟩ | ⟨rfl, S, hb2⟩
          · have NO := Lib.hid (show ¬ move1 f bound class_ evs ⟨i, k, rk⟩ ⟨src, t, dst⟩ from fun h => S.out (by have := h (by rw [evAt_get HZ.out]; exact HOB.out); rw [evAt_get HZ.out] at this; exact this))
            have HB2 := Lib.hid ((Below.refl _ W).drew.trans hb2)
            clear hb2
            go_wp2_with fail
            go_meet
            exact ⟨true, rfl, ⟨fun h => (by cases h), fun h => absurd h NO.out⟩, HB2⟩
          · have YES := Lib.hid (show move1 f bound class_ evs ⟨i, k, rk⟩ ⟨src, t, dst⟩ from fun _  => by rw [evAt_get HZ.out]; exact S.out)
            have HB2 := Lib.hid ((Below.refl _ W).drew.trans hb2)
            clear hb2
            go_wp2_with fail
            go_meet
            exact ⟨false, rfl, ⟨fun _ => YES.out, fun _ => rfl⟩, HB2⟩
      case rest =>
        obtain ⟨bb, rfl, HB, BC⟩ := hcut
        have BRC := Lib.hid (BR.out.trans ((BN.out.trans (BC.out.mono BN.out.size)).mono BR.out.size))
        clear a0 a3 zt pc0 pc1 pc2 zp x1 x2 g2 g4
        cases bb with
        | true =>
          have NO := Lib.hid (show ¬ move1 f bound class_ evs ⟨i, k, rk⟩ ⟨src, t, dst⟩ from fun h => by have := HB.out.2 h; cases this)
          go_wp2
          go_ret
          exact Tells.no (fun h => NO.out (h.m1 _ (List.mem_of_getElem? HX.out))) (BW1.out.trans (BRC.out.mono BW1.out.size))
        | false =>
          go_wp2
          go_roundw
          case rel => exact ⟨m + 1, by omega, by go_num, BRC, all_step HM.out HX.out (HB.out.1 rfl)⟩
          case measure => simp [intOf]; omega
    have M1 := Lib.hid (all_get (P := move1 f bound class_ evs ⟨i, k, rk⟩) (fun j y hj hy => HM.out j y (by omega) hy))
    obtain ⟨V1, rfl⟩ : ∃ V : World, V = wr := ⟨_, rfl⟩
    have a0 := TR.out.c0
    have a3 := TR.out.c3
    have zt := TR.out.z
    have pc0 := PR.out.c0
    have pc1 := PR.out.c1
    have pc2 := PR.out.c2
    have zp := PR.out.z
    obtain ⟨A2, c2, hbo, hrow, lE2, hE⟩ := RowsAt.row TR.out.rows hk
    have HE2 := Lib.hid hE
    clear hE
    go_wp2_with fail
    go_quiet (fail)
    have BQ := Lib.hid ((Below.refl V1.heap.size V1).draws nq)
    go_wp2_with fail
    generalize hW : V1.drewN nq = W2 at *
    clear hW a0 a3 zt pc0 pc1 pc2 zp hbo hrow
    have T2 := Lib.hid (TR.out.below BQ.out)
    have P2 := Lib.hid (PR.out.below BQ.out)
    have BW2 := Lib.hid (BWR.out.trans (BQ.out.mono BWR.out.size))
    have HE2' := Lib.hid (HE2.out.below EdE.stays BQ.out)
    clear HE2 BQ TR PR BWR BR HM
    go_loopw [58] (fun a wr => ∃ m : Nat, m ≤ (outOf ed k).length ∧ a = .int .i64 m ∧ Hid (Below W2.heap.size W2 wr) ∧ Hid (∀ (j : Nat) (y : Ed), j < m → (outOf ed k)[j]? = some y → move2 f bound class_ evs ⟨i, k, rk⟩ y)) (fun a _ => (outOf ed k).length - (intOf a).toNat)
    case atStart => exact ⟨0, by omega, rfl, Below.refl _ _, fun j y h => absurd h (by omega)⟩
    case round =>
      obtain ⟨m, hm, rfl, BR, HM⟩ := hrel
      have TR := Lib.hid (T2.out.below BR.out)
      have PR := Lib.hid (P2.out.below BR.out)
      have BWR := Lib.hid (BW2.out.trans (BR.out.mono BW2.out.size))
      by_cases hlt : m < (outOf ed k).length
      · obtain ⟨b, off, x, hA, hb, hx, e0, e1, e2⟩ := EdsAt.at (HE2'.out.below EdE.stays BR.out) hlt
        have hxe := HEV.out k x (List.mem_of_getElem? hx)
        obtain ⟨src, ev, dst⟩ := x
        obtain ⟨t, rfl⟩ := Int.eq_ofNat_of_zero_le hxe.1
        have hte : t < evs.length := by have := hxe.2; simp only at this; omega
        clear hxe
        subst hA
        dsimp only at e0 e1 e2
        obtain ⟨z, hz⟩ : ∃ z, evs[t]? = some z := ⟨_, List.getElem?_eq_getElem hte⟩
        have HZ := Lib.hid hz
        have HX := Lib.hid hx
        clear hz hx
        go_wp2
        have BN := Lib.hid (Below.new wr (.cells #[.int .i64 src, .int .i64 (t : Int), .int .i64 dst] 73))
        have x1 := new_cell wr 73 [.int .i64 src, .int .i64 (t : Int), .int .i64 dst] _ 1 rfl
        have x2 := new_cell wr 73 [.int .i64 src, .int .i64 (t : Int), .int .i64 dst] _ 2 rfl
        have zx : wr.heap.size < (wr.alloc (.cells #[.int .i64 src, .int .i64 (t : Int), .int .i64 dst] 73)).heap.size := by simp
        clear e0 e1 e2
        generalize hW : wr.alloc (.cells #[.int .i64 src, .int .i64 (t : Int), .int .i64 dst] 73) = W at *
        clear hW
        have TW := Lib.hid (TR.out.below BN.out)
        have PW := Lib.hid (PR.out.below BN.out)
        have a0 := TW.out.c0
        have a3 := TW.out.c3
        have zt := TW.out.z
        have pc0 := PW.out.c0
        have pc1 := PW.out.c1
        have pc2 := PW.out.c2
        have zp := PW.out.z
        obtain ⟨be, oe, hAE, hbe, g2, g4⟩ := EvsAt.get TW.out.ev HZ.out
        subst hAE
        go_cut [99] (fun a wx => ∃ bb : Bool, a = .bool bb ∧ Hid (bb = false ↔ move2 f bound class_ evs ⟨i, k, rk⟩ ⟨src, t, dst⟩) ∧ Hid (Below W.heap.size W wx))
        case first =>
          cases hobs : z.obs with
          | true =>
            rw [hobs] at g2
            have YES := Lib.hid (show move2 f bound class_ evs ⟨i, k, rk⟩ ⟨src, t, dst⟩ from fun h => by rw [evAt_get HZ.out, hobs] at h; cases h)
            clear hobs
            go_quiet (fail)
            go_wp2_with fail
            go_meet
            exact ⟨false, rfl, ⟨fun _ => YES.out, fun _ => rfl⟩, (Below.refl _ _).draws _⟩
          | false =>
            rw [hobs] at g2
            have a1 := TW.out.c1
            by_cases hfa : z.fault = class_
            · have YES := Lib.hid (show move2 f bound class_ evs ⟨i, k, rk⟩ ⟨src, t, dst⟩ from fun _ h => by rw [evAt_get HZ.out] at h; exact absurd hfa h)
              rw [hfa] at g4
              clear hobs hfa
              go_quiet (fail)
              go_wp2_with fail
              go_meet
              exact ⟨false, rfl, ⟨fun _ => YES.out, fun _ => rfl⟩, (Below.refl _ _).draws _⟩
            have HNF := Lib.hid hfa
            have hfb : (z.fault != class_) = true := by simpa using hfa
            have hfc : (z.fault == class_) = false := by simpa using hfa
            clear hfa
            generalize hzf : z.fault = zf at g4 hfb hfc
            have HZF := Lib.hid hzf
            clear hzf
            have HOB := Lib.hid hobs
            clear hobs
            go_still_tail 35, (by kernel_rfl)
            change wpList _ _ _ _ _ W.drew
            go_wp2_with fail
            refine (leads_c bt bm _ cE evs class_ bound (some ⟨bo, 0, none⟩) cO n ed f ⟨i, k, rk⟩ i dst t z false _ (TW.out.below (Below.refl _ W).drew) HZ.out lev).mono ?_
            intro e w2 hs
            rcases hs.no1 with ⟨rfl, S, hb2⟩ | ⟨rfl, S, hb2⟩
            · have NO := Lib.hid (show ¬ move2 f bound class_ evs ⟨i, k, rk⟩ ⟨src, t, dst⟩ from fun h => S.out (by have := h (by rw [evAt_get HZ.out]; exact HOB.out) (by rw [evAt_get HZ.out]; exact HNF.out); rw [evAt_get HZ.out] at this; exact this))
              have HB2 := Lib.hid ((Below.refl _ W).drew.trans hb2)
              clear hb2
              go_wp2_with fail
              go_meet
              exact ⟨true, rfl, ⟨fun h => (by cases h), fun h => absurd h NO.out⟩, HB2⟩
            · have YES := Lib.hid (show move2 f bound class_ evs ⟨i, k, rk⟩ ⟨src, t, dst⟩ from fun _ _ => by rw [evAt_get HZ.out]; exact S.out)
              have HB2 := Lib.hid ((Below.refl _ W).drew.trans hb2)
              clear hb2
              go_wp2_with fail
              go_meet
              exact ⟨false, rfl, ⟨fun _ => YES.out, fun _ => rfl⟩, HB2⟩
        case rest =>
          obtain ⟨bb, rfl, HB, BC⟩ := hcut
          have BRC := Lib.hid (BR.out.trans ((BN.out.trans (BC.out.mono BN.out.size)).mono BR.out.size))
          clear a0 a3 zt pc0 pc1 pc2 zp x1 x2 g2 g4
          cases bb with
          | true =>
            have NO := Lib.hid (show ¬ move2 f bound class_ evs ⟨i, k, rk⟩ ⟨src, t, dst⟩ from fun h => by have := HB.out.2 h; cases this)
            go_wp2
            go_ret
            exact Tells.no (fun h => NO.out (h.m2 _ (List.mem_of_getElem? HX.out))) (BW2.out.trans (BRC.out.mono BW2.out.size))
          | false =>
            go_wp2
            go_roundw
            case rel => exact ⟨m + 1, by omega, by go_num, BRC, all_step HM.out HX.out (HB.out.1 rfl)⟩
            case measure => simp [intOf]; omega
      have M2 := Lib.hid (all_get (P := move2 f bound class_ evs ⟨i, k, rk⟩) (fun j y hj hy => HM.out j y (by omega) hy))
      obtain ⟨V2, rfl⟩ : ∃ V : World, V = wr := ⟨_, rfl⟩
      have a0 := TR.out.c0
      have a3 := TR.out.c3
      have zt := TR.out.z
      have pc0 := PR.out.c0
      have pc1 := PR.out.c1
      have pc2 := PR.out.c2
      have zp := PR.out.z
      obtain ⟨A3, c3, hbo, hrow, lE3, hE⟩ := RowsAt.row TR.out.rows hi
      have HE3 := Lib.hid hE
      clear hE
      go_wp2_with fail
      go_quiet (fail)
      have BQ := Lib.hid ((Below.refl V2.heap.size V2).draws nq)
      go_wp2_with fail
      generalize hW : V2.drewN nq = W3 at *
      clear hW a0 a3 zt pc0 pc1 pc2 zp hbo hrow
      have T3 := Lib.hid (TR.out.below BQ.out)
      have P3 := Lib.hid (PR.out.below BQ.out)
      have BW3 := Lib.hid (BWR.out.trans (BQ.out.mono BWR.out.size))
      have HE3' := Lib.hid (HE3.out.below EdE.stays BQ.out)
      clear HE3 BQ TR PR BWR BR HM
      go_loopw [110] (fun a wr => ∃ m : Nat, m ≤ (outOf ed i).length ∧ a = .int .i64 m ∧ Hid (Below W3.heap.size W3 wr) ∧ Hid (∀ (j : Nat) (x : Ed), j < m → (outOf ed i)[j]? = some x → ∀ y, y ∈ outOf ed k → move3 f bound class_ evs ⟨i, k, rk⟩ x y)) (fun a _ => (outOf ed i).length - (intOf a).toNat)
      case atStart => exact ⟨0, by omega, rfl, Below.refl _ _, fun j y h => absurd h (by omega)⟩
      case round =>
        obtain ⟨m, hm, rfl, BR, HM⟩ := hrel
        have TR := Lib.hid (T3.out.below BR.out)
        have PR := Lib.hid (P3.out.below BR.out)
        have BWR := Lib.hid (BW3.out.trans (BR.out.mono BW3.out.size))
        by_cases hlt : m < (outOf ed i).length
        · obtain ⟨b, off, x, hA, hb, hx, e0, e1, e2⟩ := EdsAt.at (HE3'.out.below EdE.stays BR.out) hlt
          have hxe := HEV.out i x (List.mem_of_getElem? hx)
          obtain ⟨src, ev, dst⟩ := x
          obtain ⟨t, rfl⟩ := Int.eq_ofNat_of_zero_le hxe.1
          have hte : t < evs.length := by have := hxe.2; simp only at this; omega
          clear hxe
          subst hA
          dsimp only at e0 e1 e2
          obtain ⟨z, hz⟩ : ∃ z, evs[t]? = some z := ⟨_, List.getElem?_eq_getElem hte⟩
          have HZ := Lib.hid hz
          have HX := Lib.hid hx
          clear hz hx
          go_wp2
          have BN := Lib.hid (Below.new wr (.cells #[.int .i64 src, .int .i64 (t : Int), .int .i64 dst] 73))
          have x1 := new_cell wr 73 [.int .i64 src, .int .i64 (t : Int), .int .i64 dst] _ 1 rfl
          have x2 := new_cell wr 73 [.int .i64 src, .int .i64 (t : Int), .int .i64 dst] _ 2 rfl
          have zx : wr.heap.size < (wr.alloc (.cells #[.int .i64 src, .int .i64 (t : Int), .int .i64 dst] 73)).heap.size := by simp
          clear e0 e1 e2
          generalize hW : wr.alloc (.cells #[.int .i64 src, .int .i64 (t : Int), .int .i64 dst] 73) = W at *
          clear hW
          have TW := Lib.hid (TR.out.below BN.out)
          have PW := Lib.hid (PR.out.below BN.out)
          have a0 := TW.out.c0
          have a3 := TW.out.c3
          have zt := TW.out.z
          have pc0 := PW.out.c0
          have pc1 := PW.out.c1
          have pc2 := PW.out.c2
          have zp := PW.out.z
          obtain ⟨A4, c4, hbo, hrow, lE4, hE⟩ := RowsAt.row TW.out.rows hk
          have HE4 := Lib.hid hE
          clear hE
          go_wp2_with fail
          go_quiet (fail)
          have BQ := Lib.hid ((Below.refl W.heap.size W).draws nq)
          go_wp2_with fail
          generalize hW : W.drewN nq = W4 at *
          clear hW a0 a3 zt pc0 pc1 pc2 zp hbo hrow
          have T4 := Lib.hid (TW.out.below BQ.out)
          have P4 := Lib.hid (PW.out.below BQ.out)
          have BN4 := Lib.hid (BN.out.trans (BQ.out.mono BN.out.size))
          have HE4' := Lib.hid (HE4.out.below EdE.stays BQ.out)
          have y1 := old_cell BQ.out x1 zx
          have y2 := old_cell BQ.out x2 zx
          have zy := Nat.lt_of_lt_of_le zx BQ.out.size
          clear x1 x2 zx HE4 BQ TW PW BN
          obtain ⟨V4, rfl⟩ : ∃ V : World, V = wr := ⟨_, rfl⟩
          go_loopw [123] (fun a wr => ∃ q : Nat, q ≤ (outOf ed k).length ∧ a = .int .i64 q ∧ Hid (Below W4.heap.size W4 wr) ∧ Hid (∀ (j : Nat) (y : Ed), j < q → (outOf ed k)[j]? = some y → move3 f bound class_ evs ⟨i, k, rk⟩ ⟨src, t, dst⟩ y)) (fun a _ => (outOf ed k).length - (intOf a).toNat)
          case atStart => exact ⟨0, by omega, rfl, Below.refl _ _, fun j y h => absurd h (by omega)⟩
          case round =>
            obtain ⟨q, hq, rfl, BR4, HM4⟩ := hrel
            have TR4 := Lib.hid (T4.out.below BR4.out)
            have PR4 := Lib.hid (P4.out.below BR4.out)
            by_cases hlt4 : q < (outOf ed k).length
            · obtain ⟨b', off', y, hA', hb', hy, e0, e1, e2⟩ := EdsAt.at (HE4'.out.below EdE.stays BR4.out) hlt4
              obtain ⟨ysrc, yev, ydst⟩ := y
              subst hA'
              dsimp only at e0 e1 e2
              have HY := Lib.hid hy
              clear hy
              go_wp2
              have BN := Lib.hid (Below.new wr (.cells #[.int .i64 ysrc, .int .i64 yev, .int .i64 ydst] 73))
              have x1 := new_cell wr 73 [.int .i64 ysrc, .int .i64 yev, .int .i64 ydst] _ 1 rfl
              have x2 := new_cell wr 73 [.int .i64 ysrc, .int .i64 yev, .int .i64 ydst] _ 2 rfl
              have zx : wr.heap.size < (wr.alloc (.cells #[.int .i64 ysrc, .int .i64 yev, .int .i64 ydst] 73)).heap.size := by simp
              have B4W := Lib.hid (BR4.out.trans (BN.out.mono BR4.out.size))
              have u1 := old_cell B4W.out y1 zy
              have u2 := old_cell B4W.out y2 zy
              have zu : V4.heap.size < (wr.alloc (.cells #[.int .i64 ysrc, .int .i64 yev, .int .i64 ydst] 73)).heap.size := Nat.lt_of_lt_of_le zy B4W.out.size
              clear e0 e1 e2
              generalize hW : wr.alloc (.cells #[.int .i64 ysrc, .int .i64 yev, .int .i64 ydst] 73) = W at *
              clear hW
              have TW := Lib.hid (TR4.out.below BN.out)
              have PW := Lib.hid (PR4.out.below BN.out)
              have a0 := TW.out.c0
              have a3 := TW.out.c3
              have zt := TW.out.z
              have pc0 := PW.out.c0
              have pc1 := PW.out.c1
              have pc2 := PW.out.c2
              have zp := PW.out.z
              obtain ⟨be, oe, hAE, hbe, g2, g4⟩ := EvsAt.get TW.out.ev HZ.out
              subst hAE
              go_cut [154] (fun a wx => ∃ bb : Bool, a = .bool bb ∧ Hid (bb = false ↔ move3 f bound class_ evs ⟨i, k, rk⟩ ⟨src, t, dst⟩ ⟨ysrc, yev, ydst⟩) ∧ Hid (Below W.heap.size W wx))
              case first =>
                by_cases he : (t : Int) = yev
                rotate_left
                · have YES := Lib.hid (show move3 f bound class_ evs ⟨i, k, rk⟩ ⟨src, t, dst⟩ ⟨ysrc, yev, ydst⟩ from fun h => absurd h he)
                  have he' : ((t : Int) == yev) = false := by simpa using he
                  clear he
                  go_quiet (fail)
                  go_wp2_with fail
                  go_meet
                  exact ⟨false, rfl, ⟨fun _ => YES.out, fun _ => rfl⟩, (Below.refl _ _).draws _⟩
                subst he
                cases hobs : z.obs with
                | false =>
                  rw [hobs] at g2
                  have YES := Lib.hid (show move3 f bound class_ evs ⟨i, k, rk⟩ ⟨src, t, dst⟩ ⟨ysrc, t, ydst⟩ from fun _ h => by rw [evAt_get HZ.out, hobs] at h; cases h)
                  clear hobs
                  go_quiet (fail)
                  go_wp2_with fail
                  go_meet
                  exact ⟨false, rfl, ⟨fun _ => YES.out, fun _ => rfl⟩, (Below.refl _ _).draws _⟩
                | true =>
                  rw [hobs] at g2
                  have HOB := Lib.hid hobs
                  clear hobs
                  go_still_tail 25, (by kernel_rfl)
                  change wpList _ _ _ _ _ W.drew
                  go_wp2_with fail
                  refine (leads_c bt bm _ cE evs class_ bound (some ⟨bo, 0, none⟩) cO n ed f ⟨i, k, rk⟩ dst ydst t z true _ (TW.out.below (Below.refl _ W).drew) HZ.out lev).mono ?_
                  intro e w2 hs
                  rcases hs.no1 with ⟨rfl, S, hb2⟩ | ⟨rfl, S, hb2⟩
                  · have NO := Lib.hid (show ¬ move3 f bound class_ evs ⟨i, k, rk⟩ ⟨src, t, dst⟩ ⟨ysrc, t, ydst⟩ from fun h => S.out (by have := h rfl (by rw [evAt_get HZ.out]; exact HOB.out); rw [evAt_get HZ.out] at this; exact this))
                    have HB2 := Lib.hid ((Below.refl _ W).drew.trans hb2)
                    clear hb2
                    go_wp2_with fail
                    go_meet
                    exact ⟨true, rfl, ⟨fun h => (by cases h), fun h => absurd h NO.out⟩, HB2⟩
                  · have YES := Lib.hid (show move3 f bound class_ evs ⟨i, k, rk⟩ ⟨src, t, dst⟩ ⟨ysrc, t, ydst⟩ from fun _ _ => by rw [evAt_get HZ.out]; exact S.out)
                    have HB2 := Lib.hid ((Below.refl _ W).drew.trans hb2)
                    clear hb2
                    go_wp2_with fail
                    go_meet
                    exact ⟨false, rfl, ⟨fun _ => YES.out, fun _ => rfl⟩, HB2⟩
              case rest =>
                obtain ⟨bb, rfl, HB, BC⟩ := hcut
                have BRC := Lib.hid (BR4.out.trans ((BN.out.trans (BC.out.mono BN.out.size)).mono BR4.out.size))
                clear a0 a3 zt pc0 pc1 pc2 zp x1 x2 u1 u2 g2 g4
                cases bb with
                | true =>
                  have NO := Lib.hid (show ¬ move3 f bound class_ evs ⟨i, k, rk⟩ ⟨src, t, dst⟩ ⟨ysrc, yev, ydst⟩ from fun h => by have := HB.out.2 h; cases this)
                  go_wp2
                  go_ret
                  exact Tells.no (fun h => NO.out (h.m3 _ (List.mem_of_getElem? HX.out) _ (List.mem_of_getElem? HY.out))) (BWR.out.trans ((BN4.out.trans (BRC.out.mono BN4.out.size)).mono BWR.out.size))
                | false =>
                  go_wp2
                  go_roundw
                  case rel => exact ⟨q + 1, by omega, by go_num, BRC, all_step HM4.out HY.out (HB.out.1 rfl)⟩
                  case measure => simp [intOf]; omega
            · have ALL := Lib.hid (all_get (P := move3 f bound class_ evs ⟨i, k, rk⟩ ⟨src, t, dst⟩) (fun j y hj hy => HM4.out j y (by omega) hy))
              go_wp2
              go_roundw
              case rel => exact ⟨m + 1, by omega, by go_num, BR.out.trans ((BN4.out.trans (BR4.out.mono BN4.out.size)).mono BR.out.size), all_step (P := (fun x => ∀ y, y ∈ outOf ed k → move3 f bound class_ evs ⟨i, k, rk⟩ x y)) HM.out HX.out ALL.out⟩
              case measure => simp [intOf]; omega
        · have M3 := Lib.hid (all_get (P := (fun x => ∀ y, y ∈ outOf ed k → move3 f bound class_ evs ⟨i, k, rk⟩ x y)) (fun j y hj hy => HM.out j y (by omega) hy))
          go_wp2
          go_ret
          exact Tells.yes ⟨M1.out, M2.out, M3.out⟩ BWR.out
end Go.Proofs.Ytkbmenpggiojeaa
