/-
  Automata: how they lie in memory, and the checker's look at them.
-/
import Derived.Test.YtkbmenpggiojeaaKb
namespace Go.Proofs.Ytkbmenpggiojeaa
open Go.RowKit
set_option linter.unusedSimpArgs false
set_option linter.unusedVariables false

structure Ed where
  src : Int
  ev : Int
  dst : Int
deriving DecidableEq
def EdE : Reading Ed := fun _ x vs => vs = [.int .i64 x.src, .int .i64 x.ev, .int .i64 x.dst]
theorem EdE.stays : Stays EdE := fun _ _ _ _ _ h => h
abbrev EdsAt := SlAt EdE 3
theorem EdsAt.at {w : World} {A : Option Addr} {l : List Ed} (h : EdsAt w A l) {k : Nat} (hk : k < l.length) :
    ∃ b off x, A = some ⟨b, off, none⟩ ∧ b < w.heap.size ∧ l[k]? = some x ∧ w.cell? ⟨b, off + k * 3, none⟩ = some (.int .i64 x.src) ∧ w.cell? ⟨b, off + k * 3 + 1, none⟩ = some (.int .i64 x.ev) ∧ w.cell? ⟨b, off + k * 3 + 2, none⟩ = some (.int .i64 x.dst) := by
  obtain ⟨b, off, x, vs, hA, hlt, hx, _, hE, hc⟩ := SlAt.at h hk
  obtain rfl : vs = _ := hE
  exact ⟨b, off, x, hA, hlt, hx, by simpa using hc 0 _ rfl, hc 1 _ rfl, hc 2 _ rfl⟩
theorem EdsAt.more {w : World} {b off : Nat} {l : List Ed} (h : EdsAt w (some ⟨b, off, none⟩) l) {k : Nat} (hk : k < l.length) :
    ∃ x, l[k]? = some x ∧ w.cell? ⟨b, off + k * 3, none⟩ = some (.int .i64 x.src) ∧ w.cell? ⟨b, off + k * 3 + 1, none⟩ = some (.int .i64 x.ev) ∧ w.cell? ⟨b, off + k * 3 + 2, none⟩ = some (.int .i64 x.dst) := by
  obtain ⟨b, off, x, hA, _, h1, h2⟩ := EdsAt.at h hk
  cases hA
  exact ⟨x, h1, h2⟩

/-- An automaton. -/
structure Au where
  al : List Int
  n : Int
  mr : List Int
  ed : List Ed
/-- Where its lists lie. -/
structure AuP where
  A1 : Option Addr
  c1 : Nat
  A2 : Option Addr
  c2 : Nat
  A3 : Option Addr
  c3 : Nat
abbrev Au.val (a : Au) (p : AuP) : Value := .agg #[.slice p.A1 a.al.length p.c1, .int .i64 a.n, .slice p.A2 a.mr.length p.c2, .slice p.A3 a.ed.length p.c3]
structure Au.At (w : World) (a : Au) (p : AuP) : Prop where
  al : IntsAt w p.A1 a.al
  mr : IntsAt w p.A2 a.mr
  ed : EdsAt w p.A3 a.ed
  lal : a.al.length ≤ 140737488355328
  lmk : a.mr.length ≤ 140737488355328
  led : a.ed.length ≤ 140737488355328
theorem Au.At.below {w w' : World} {a : Au} {p : AuP} (h : Au.At w a p) (hb : Below w.heap.size w w') : Au.At w' a p :=
  ⟨h.al.below IntE.stays hb, h.mr.below IntE.stays hb, h.ed.below EdE.stays hb, h.lal, h.lmk, h.led⟩

def edOk (a : Au) (i : Nat) : Prop := ∀ x, a.ed[i]? = some x → 0 ≤ x.src ∧ x.src < a.n ∧ 0 ≤ x.dst ∧ x.dst < a.n ∧ x.ev ∈ a.al ∧ (∀ y, 0 < i → a.ed[i-1]? = some y → y.src < x.src ∨ y.src = x.src ∧ y.ev < x.ev)
structure Au.Right (a : Au) : Prop where
  al : setOk a.al 32 a.al.length
  n0 : 0 ≤ a.n
  n1 : a.n ≤ 4096
  mr : setOk a.mr a.n a.mr.length
  ed : ∀ i, i < a.ed.length → edOk a i

set_option maxRecDepth 100000 in
set_option maxHeartbeats 1000000 in
theorem Automaton_c (a : Au) (p : AuP) (w : World) (h : Au.At w a p) :
    Calls Try.prog 23 #[a.val p] w (Tells a.Right w) := by
  obtain ⟨al, n, mr, ed⟩ := a
  obtain ⟨A1, c1, A2, c2, A3, c3⟩ := p
  obtain ⟨h1, h2, h3, l1, l2, l3⟩ := h
  dsimp only [Au.val] at *
  have G1 := Lib.hid h1
  have G2 := Lib.hid h2
  have G3 := Lib.hid h3
  clear h1 h2 h3
  go_enter Try.func23, Try.ntmps23
  go_wp2_with fail
  refine (set_c A1 c1 al 32 _ (G1.out.below IntE.stays (Below.new _ _)) (by unfold maxLen; omega)).mono ?_
  intro e w1 hs; rcases hs.no1 with ⟨rfl, S1, rfl⟩ | ⟨rfl, S1, rfl⟩
  · go_wp2
    go_ret
    exact Tells.no (fun h => S1.out h.al) (Below.new _ _)
  by_cases hn0 : n < 0
  · go_wp2
    go_ret
    exact Tells.no (fun h => by have := h.n0; simp at this; omega) (Below.new _ _)
  by_cases hn1 : 4096 < n
  · go_wp2
    go_ret
    exact Tells.no (fun h => by have := h.n1; simp at this; omega) (Below.new _ _)
  go_wp2_with fail
  refine (set_c A2 c2 mr n _ (G2.out.below IntE.stays (Below.new _ _)) (by unfold maxLen; omega)).mono ?_
  intro e w1 hs; rcases hs.no1 with ⟨rfl, S2, rfl⟩ | ⟨rfl, S2, rfl⟩
  · go_wp2
    go_ret
    exact Tells.no (fun h => S2.out h.mr) (Below.new _ _)
  go_wp2
  have HR := Lib.hid (show 0 ≤ n ∧ n ≤ 4096 from ⟨by omega, by omega⟩)
  go_loopw [30] (fun i wr => ∃ k : Nat, k ≤ ed.length ∧ i = .int .i64 k ∧ Hid (Below (w.heap.size + 1) (w.alloc (.cells #[.slice A1 al.length c1, .int .i64 n, .slice A2 mr.length c2, .slice A3 ed.length c3] 39)) wr) ∧ Hid (∀ i, i < k → edOk ⟨al, n, mr, ed⟩ i)) (fun i _ => ed.length - (intOf i).toNat)
  case atStart => exact ⟨0, by omega, rfl, Below.refl _ _, fun i h => absurd h (by omega)⟩
  case round =>
    obtain ⟨k, hk, rfl, HB, HE⟩ := hrel
    have hsz : w.heap.size < wr.heap.size := by have := HB.out.size; simp at this; omega
    have q0 : wr.cell? ⟨w.heap.size, 0, none⟩ = some (.slice A1 al.length c1) := (HB.out.cell (p := ⟨w.heap.size, 0, none⟩) (by simp)).trans (by simp)
    have q1 : wr.cell? ⟨w.heap.size, 1, none⟩ = some (.int .i64 n) := (HB.out.cell (p := ⟨w.heap.size, 1, none⟩) (by simp)).trans (by simp)
    have q3 : wr.cell? ⟨w.heap.size, 3, none⟩ = some (.slice A3 ed.length c3) := (HB.out.cell (p := ⟨w.heap.size, 3, none⟩) (by simp)).trans (by simp)
    have BW : Hid (Below w.heap.size w wr) := (Below.new w _).trans (HB.out.mono (by omega))
    by_cases hlt : k < ed.length
    · obtain ⟨b, off, x, hA3, hb, hx, e0, e1, e2⟩ := EdsAt.at (G3.out.below EdE.stays BW.out) hlt
      obtain ⟨src, ev, dst⟩ := x
      subst hA3
      dsimp only at e0 e1 e2
      by_cases hs : 0 ≤ src ∧ src < n ∧ 0 ≤ dst ∧ dst < n
      · obtain ⟨s0, s1, d0, d1⟩ := hs
        go_wp2_with fail
        refine (has_c A1 c1 al ev _ (G1.out.below IntE.stays (BW.out.trans (Below.new _ _ |>.mono (by omega)))) (by omega) S1.out.incr).mono ?_
        intro e w1 hs; rcases hs.no1 with ⟨rfl, SE, rfl⟩ | ⟨rfl, SE, rfl⟩
        · go_wp2
          go_ret
          exact Tells.no (fun h => SE.out (h.ed k hlt _ hx).2.2.2.2.1) (BW.out.trans (Below.new _ _ |>.mono (by omega)))
        have BR : Hid (Below (w.heap.size + 1) (w.alloc (.cells #[.slice A1 al.length c1, .int .i64 n, .slice A2 mr.length c2, .slice (some ⟨b, off, none⟩) ed.length c3] 39)) (wr.alloc (.cells #[.int .i64 src, .int .i64 ev, .int .i64 dst] 73))) := HB.out.alloc (by omega) _
        have BN : Hid (Below w.heap.size w (wr.alloc (.cells #[.int .i64 src, .int .i64 ev, .int .i64 dst] 73))) := BW.out.alloc (by omega) _
        by_cases hk0 : k = 0
        · subst hk0
          go_wp2_with fail
          go_quiet (fail)
          go_wp2
          go_roundw
          case rel => exact ⟨1, by omega, by go_num, BR.out.draws _, fun i hi => by
            obtain rfl : i = 0 := by omega
            intro z hz
            rw [hx] at hz; cases hz
            exact ⟨s0, s1, d0, d1, SE.out, fun y h => absurd h (by omega)⟩⟩
          case measure => simp [intOf]; omega
        · obtain ⟨y, hy, f0, f1, f2⟩ := EdsAt.more (G3.out.below EdE.stays BW.out) (k := k - 1) (by omega)
          obtain ⟨ysrc, yev, ydst⟩ := y
          dsimp only at f0 f1 f2
          have hk1 : 0 < k := by omega
          by_cases g1 : src < ysrc
          · go_wp2_with fail
            go_quiet (fail)
            go_wp2
            go_ret
            exact Tells.no (fun h => by have := (h.ed k hlt _ hx).2.2.2.2.2 _ hk1 hy; simp only at this; omega) (BN.out.draws _)
          by_cases g2 : src = ysrc
          · subst g2
            by_cases g3 : ev ≤ yev
            · go_wp2_with fail
              go_quiet (fail)
              go_wp2
              go_ret
              exact Tells.no (fun h => by have := (h.ed k hlt _ hx).2.2.2.2.2 _ hk1 hy; simp only at this; omega) (BN.out.draws _)
            · go_wp2_with fail
              go_quiet (fail)
              go_wp2
              go_roundw
              case rel => exact ⟨k + 1, by omega, by go_num, BR.out.draws _, fun i hi => by
                by_cases e : i = k
                · subst e
                  intro z hz
                  rw [hx] at hz; cases hz
                  exact ⟨s0, s1, d0, d1, SE.out, fun y _ h => by rw [hy] at h; cases h; dsimp only; omega⟩
                · exact HE.out i (by omega)⟩
              case measure => simp [intOf]; omega
          · have g4 : (src == ysrc) = false := by simpa using g2
            have g5 : decide (src < ysrc) = false := by simpa using g1
            go_wp2_with fail
            go_quiet (fail)
            go_wp2
            go_roundw
            case rel => exact ⟨k + 1, by omega, by go_num, BR.out.draws _, fun i hi => by
              by_cases e : i = k
              · subst e
                intro z hz
                rw [hx] at hz; cases hz
                exact ⟨s0, s1, d0, d1, SE.out, fun y _ h => by rw [hy] at h; cases h; dsimp only; omega⟩
              · exact HE.out i (by omega)⟩
            case measure => simp [intOf]; omega
      · go_wp2
        any_goals (go_ret; exact Tells.no (fun h => by have := h.ed k hlt _ hx; simp only at this; omega) (BW.out.trans (Below.new _ _ |>.mono (by omega))))
    · go_wp2
      go_ret
      exact Tells.yes ⟨S1.out, HR.out.1, HR.out.2, S2.out, fun i (hi : i < ed.length) => HE.out i (by omega)⟩ BW.out
end Go.Proofs.Ytkbmenpggiojeaa
