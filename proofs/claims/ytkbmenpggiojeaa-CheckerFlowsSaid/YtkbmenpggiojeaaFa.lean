/-
  Nets: how they lie in memory, and the checker's look at them.
-/
import Derived.Test.YtkbmenpggiojeaaRc
import Derived.Test.YtkbmenpggiojeaaKe
import Derived.Test.YtkbmenpggiojeaaKg
import Derived.Deep.RegionHeld3
namespace Go.Proofs.Ytkbmenpggiojeaa
open Go.RowKit
set_option linter.unusedSimpArgs false
set_option linter.unusedVariables false
set_option maxRecDepth 100000

structure Arc where
  pl : Int
  wt : Int
def Arc.cells (x : Arc) : List Value := [.int .i64 x.pl, .int .i64 x.wt]
abbrev ArcR : Rep Arc := PlR Arc.cells
abbrev ArcsAt (w : World) (A : Option Addr) (l : List Arc) : Prop := SlAt (Rd ArcR) 2 w A l
theorem ArcsAt.get {w : World} {A : Option Addr} {l : List Arc} (h : ArcsAt w A l) {k : Nat} {x : Arc} (hx : l[k]? = some x) :
    ∃ b off, A = some ⟨b, off, none⟩ ∧ b < w.heap.size ∧ w.cell? ⟨b, off + k * 2, none⟩ = some (.int .i64 x.pl) ∧ w.cell? ⟨b, off + k * 2 + 1, none⟩ = some (.int .i64 x.wt) := by
  obtain ⟨b, off, y, vs, hA, hlt, hy, _, hE, hc⟩ := SlAt.at h (List.getElem?_eq_some_iff.1 hx).1
  rw [hx] at hy; cases hy
  obtain rfl : vs = x.cells := hE
  exact ⟨b, off, hA, hlt, by simpa using hc 0 _ rfl, hc 1 _ rfl⟩
structure Tr where
  ev : Int
  ins : List Arc
  outs : List Arc
def TrR : Rep Tr := fun F w t vs => ∃ vi vo : Value, vs = [.int .i64 t.ev, vi, vo] ∧ SlR ArcR 2 F w t.ins [vi] ∧ SlR ArcR 2 F w t.outs [vo]
theorem ArcsR.ok : RepOk (SlR ArcR 2) := SlR.ok (PlR.ok _) 2
theorem TrR.ok : RepOk TrR :=
  ⟨fun hz hk ⟨vi, vo, e, h1, h2⟩ => ⟨vi, vo, e, ArcsR.ok.keep hz hk h1, ArcsR.ok.keep hz hk h2⟩, fun hm ⟨vi, vo, e, h1, h2⟩ => ⟨vi, vo, e, ArcsR.ok.mono hm h1, ArcsR.ok.mono hm h2⟩⟩
abbrev TrsAt (w : World) (A : Option Addr) (l : List Tr) : Prop := SlAt (Rd TrR) 3 w A l
theorem TrsAt.get {w : World} {A : Option Addr} {l : List Tr} (h : TrsAt w A l) {k : Nat} {x : Tr} (hx : l[k]? = some x) :
    ∃ b off A1 c1 A2 c2, A = some ⟨b, off, none⟩ ∧ b < w.heap.size ∧ w.cell? ⟨b, off + k * 3, none⟩ = some (.int .i64 x.ev) ∧ w.cell? ⟨b, off + k * 3 + 1, none⟩ = some (.slice A1 x.ins.length c1) ∧ w.cell? ⟨b, off + k * 3 + 2, none⟩ = some (.slice A2 x.outs.length c2) ∧
      ArcsAt w A1 x.ins ∧ ArcsAt w A2 x.outs ∧ x.ins.length ≤ 140737488355328 ∧ x.outs.length ≤ 140737488355328 := by
  obtain ⟨b, off, y, vs, hA, hlt, hy, _, hE, hc⟩ := SlAt.at h (List.getElem?_eq_some_iff.1 hx).1
  rw [hx] at hy; cases hy
  obtain ⟨vi, vo, rfl, h1, h2⟩ := hE
  obtain ⟨A1, c1, e1⟩ := h1.form
  obtain ⟨A2, c2, e2⟩ := h2.form
  cases e1; cases e2
  obtain ⟨_, l1, a1⟩ := h1.at_ (PlR.ok _)
  obtain ⟨_, l2, a2⟩ := h2.at_ (PlR.ok _)
  exact ⟨b, off, A1, c1, A2, c2, hA, hlt, by simpa using hc 0 _ rfl, hc 1 _ rfl, hc 2 _ rfl, a1, a2, l1, l2⟩

def arcOk (l : List Arc) (n : Int) (i : Nat) : Prop := ∀ x, l[i]? = some x → 0 ≤ x.pl ∧ x.pl < n ∧ (∀ y, 0 < i → l[i-1]? = some y → y.pl < x.pl) ∧ 1 ≤ x.wt ∧ x.wt ≤ 8
def arcsOk (l : List Arc) (n : Int) : Prop := ∀ i, i < l.length → arcOk l n i

set_option maxHeartbeats 1000000 in
theorem arcs_c (A : Option Addr) (c : Nat) (l : List Arc) (n : Int) (w : World) (h : ArcsAt w A l) (hl : l.length ≤ 140737488355328) :
    Calls Try.prog 85 #[.slice A l.length c, .int .i64 n] w (Tells (arcsOk l n) w) := by
  have HL := Lib.hid h
  clear h
  go_enter Try.func85, Try.ntmps85
  go_wp2
  go_loopw [9] (fun i wr => ∃ k : Nat, k ≤ l.length ∧ i = .int .i64 k ∧ Hid (Fro w.heap.size w wr) ∧ Hid (∀ i, i < k → arcOk l n i)) (fun i _ => l.length - (intOf i).toNat)
  case atStart => exact ⟨0, by omega, rfl, Fro.here w, fun i h => absurd h (by omega)⟩
  case round =>
    obtain ⟨k, hk, rfl, BW, HE⟩ := hrel
    by_cases hlt : k < l.length
    · obtain ⟨x, hx⟩ : ∃ x, l[k]? = some x := ⟨_, List.getElem?_eq_getElem hlt⟩
      obtain ⟨b, off, hA, hb, e0, e1⟩ := ArcsAt.get (HL.out.below (PlR.ok _).stays BW.out.b) hx
      subst hA
      obtain ⟨pl, wt⟩ := x
      dsimp only at e0 e1
      have HX := Lib.hid hx
      clear hx
      have BN : Hid (Fro w.heap.size w (wr.alloc (.cells #[.int .i64 pl, .int .i64 wt] 121))) := BW.out.alloc _
      have no : Hid (¬ arcOk l n k → ¬ arcsOk l n) := fun h h2 => h (h2 k hlt)
      by_cases h0 : pl < 0
      · have h0' : decide (pl < 0) = true := by simpa using h0
        go_wp2_with fail
        go_quiet (fail)
        go_wp2
        go_ret
        exact Tells.no (no.out fun h => by have := (h _ HX.out).1; simp only at this; omega) (BN.out.draws _).b
      have h0' : decide (pl < 0) = false := by simpa using h0
      by_cases h1 : n ≤ pl
      · have h1' : decide (n ≤ pl) = true := by simpa using h1
        go_wp2_with fail
        go_quiet (fail)
        go_wp2
        go_ret
        exact Tells.no (no.out fun h => by have := (h _ HX.out).2.1; simp only at this; omega) (BN.out.draws _).b
      have h1' : decide (n ≤ pl) = false := by simpa using h1
      by_cases h3 : wt < 1 ∨ 8 < wt
      all_goals by_cases hk0 : k = 0
      · subst hk0
        simp only [Nat.zero_mul, Nat.add_zero] at e0 e1
        by_cases h4 : wt < 1
        · have h4' : decide (wt < 1) = true := by simpa using h4
          clear h3
          go_wp2_with fail
          go_quiet (fail)
          go_wp2
          go_ret
          exact Tells.no (no.out fun h => by have := (h _ HX.out).2.2.2; simp only at this; omega) (BN.out.draws _).b
        · have h4' : decide (wt < 1) = false := by simpa using h4
          have h5' : decide (8 < wt) = true := by simp; omega
          have H3 : Hid (8 < wt) := by unfold Hid; omega
          clear h3
          go_wp2_with fail
          go_quiet (fail)
          go_wp2
          go_ret
          exact Tells.no (no.out fun h => by have := (h _ HX.out).2.2.2; have := H3.out; simp only at *; omega) (BN.out.draws _).b
      · obtain ⟨y, hy⟩ : ∃ y, l[k - 1]? = some y := ⟨_, List.getElem?_eq_getElem (by omega)⟩
        obtain ⟨b', off', hA', _, f0, f1⟩ := ArcsAt.get (HL.out.below (PlR.ok _).stays BW.out.b) hy
        cases hA'
        have hkp : decide ((0 : Int) < (k : Int)) = true := by simp; omega
        have hk1 : 0 < k := by omega
        have H3 := Lib.hid h3
        clear hy h3
        by_cases h6 : pl ≤ y.pl
        · have h6' : decide (pl ≤ y.pl) = true := by simpa using h6
          go_wp2_with fail
          go_quiet (fail)
          go_wp2
          go_ret
          exact Tells.no (no.out fun h => by have := (h _ HX.out).2.2.2; have := H3.out; simp only at *; omega) (BN.out.draws _).b
        · have h6' : decide (pl ≤ y.pl) = false := by simpa using h6
          by_cases h4 : wt < 1
          · have h4' : decide (wt < 1) = true := by simpa using h4
            go_wp2_with fail
            go_quiet (fail)
            go_wp2
            go_ret
            exact Tells.no (no.out fun h => by have := (h _ HX.out).2.2.2; simp only at this; omega) (BN.out.draws _).b
          · have h4' : decide (wt < 1) = false := by simpa using h4
            have h5' : decide (8 < wt) = true := by have := H3.out; simp; omega
            go_wp2_with fail
            go_quiet (fail)
            go_wp2
            go_ret
            exact Tells.no (no.out fun h => by have := (h _ HX.out).2.2.2; have := H3.out; simp only at *; omega) (BN.out.draws _).b
      · subst hk0
        simp only [Nat.zero_mul, Nat.add_zero] at e0 e1
        have h4' : decide (wt < 1) = false := by simp; omega
        have h5' : decide (8 < wt) = false := by simp; omega
        have H3 := Lib.hid h3
        clear h3
        go_wp2_with fail
        go_quiet (fail)
        go_wp2
        go_roundw
        case rel => exact ⟨1, by omega, by go_num, BN.out.draws _, fun i hi => by
          obtain rfl : i = 0 := by omega
          intro z hz
          rw [HX.out] at hz; cases hz
          have := H3.out
          exact ⟨by simp only; omega, by simp only; omega, fun y h => absurd h (by omega), by simp only; omega, by simp only; omega⟩⟩
        case measure => simp [intOf]; omega
      · obtain ⟨y, hy⟩ : ∃ y, l[k - 1]? = some y := ⟨_, List.getElem?_eq_getElem (by omega)⟩
        obtain ⟨b', off', hA', _, f0, f1⟩ := ArcsAt.get (HL.out.below (PlR.ok _).stays BW.out.b) hy
        cases hA'
        have hkp : decide ((0 : Int) < (k : Int)) = true := by simp; omega
        have hk1 : 0 < k := by omega
        have h4' : decide (wt < 1) = false := by simp; omega
        have h5' : decide (8 < wt) = false := by simp; omega
        have H3 := Lib.hid h3
        have HY := Lib.hid hy
        clear hy h3
        by_cases h6 : pl ≤ y.pl
        · have h6' : decide (pl ≤ y.pl) = true := by simpa using h6
          go_wp2_with fail
          go_quiet (fail)
          go_wp2
          go_ret
          exact Tells.no (no.out fun h => by have := (h _ HX.out).2.2.1 y (by omega) HY.out; simp only at *; omega) (BN.out.draws _).b
        · have h6' : decide (pl ≤ y.pl) = false := by simpa using h6
          go_wp2_with fail
          go_quiet (fail)
          go_wp2
          go_roundw
          case rel => exact ⟨k + 1, by omega, by go_num, BN.out.draws _, fun i hi => by
            by_cases e : i = k
            · subst e
              intro z hz
              rw [HX.out] at hz; cases hz
              have := H3.out
              exact ⟨by simp only; omega, by simp only; omega, fun y' _ h => by rw [HY.out] at h; cases h; simp only; omega, by simp only; omega, by simp only; omega⟩
            · exact HE.out i (by omega)⟩
          case measure => simp [intOf]; omega
    · obtain rfl : k = l.length := by omega
      go_wp2
      go_ret
      exact Tells.yes HE.out BW.out.b
end Go.Proofs.Ytkbmenpggiojeaa
