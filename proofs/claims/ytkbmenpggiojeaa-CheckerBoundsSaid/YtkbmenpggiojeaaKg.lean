/-
  The numbers that are kept or removed: how they lie in memory, and the two looks at them.
-/
import Derived.Test.YtkbmenpggiojeaaKe
import Derived.Test.YtkbmenpggiojeaaKf
namespace Go.Proofs.Ytkbmenpggiojeaa
open Go.RowKit
set_option linter.unusedSimpArgs false
set_option linter.unusedVariables false

def BoolE : Reading Bool := fun _ x vs => vs = [.bool x]
theorem BoolE.stays : Stays BoolE := fun _ _ _ _ _ h => h
abbrev BoolsAt := SlAt BoolE 1
theorem BoolsAt.get {w : World} {A : Option Addr} {l : List Bool} (h : BoolsAt w A l) {k : Nat} {x : Bool} (hx : l[k]? = some x) : ∃ b off, A = some ⟨b, off, none⟩ ∧ b < w.heap.size ∧ w.cell? ⟨b, off + k, none⟩ = some (.bool x) := by
  obtain ⟨b, off, y, vs, hA, hlt, hy, _, hE, hc⟩ := SlAt.at h (List.getElem?_eq_some_iff.1 hx).1
  obtain rfl : vs = [.bool y] := hE
  rw [hx] at hy; cases hy
  exact ⟨b, off, hA, hlt, by simpa using hc 0 _ rfl⟩
theorem IntsAt.get {w : World} {A : Option Addr} {l : List Int} (h : IntsAt w A l) {k : Nat} {x : Int} (hx : l[k]? = some x) : ∃ b off, A = some ⟨b, off, none⟩ ∧ b < w.heap.size ∧ w.cell? ⟨b, off + k, none⟩ = some (.int .i64 x) := by
  obtain ⟨b, off, y, hA, hlt, hy, hc⟩ := IntsAt.at h (List.getElem?_eq_some_iff.1 hx).1
  rw [hx] at hy; cases hy
  exact ⟨b, off, hA, hlt, hc⟩

structure Rm where
  st : Int
  rank : Int
  reason : Int
  ev : Int
deriving DecidableEq
def Rm.cells (x : Rm) : List Value := [.int .i64 x.st, .int .i64 x.rank, .int .i64 x.reason, .int .i64 x.ev]
def RmE : Reading Rm := fun _ x vs => vs = Rm.cells x
theorem RmE.stays : Stays RmE := fun _ _ _ _ _ h => h
abbrev RmsAt := SlAt RmE 4
theorem RmsAt.get {w : World} {A : Option Addr} {l : List Rm} (h : RmsAt w A l) {k : Nat} {x : Rm} (hx : l[k]? = some x) : ∃ b off, A = some ⟨b, off, none⟩ ∧ b < w.heap.size ∧
    w.cell? ⟨b, off + k * 4, none⟩ = some (.int .i64 x.st) ∧ w.cell? ⟨b, off + k * 4 + 1, none⟩ = some (.int .i64 x.rank) ∧ w.cell? ⟨b, off + k * 4 + 2, none⟩ = some (.int .i64 x.reason) ∧ w.cell? ⟨b, off + k * 4 + 3, none⟩ = some (.int .i64 x.ev) := by
  obtain ⟨b, off, y, vs, hA, hlt, hy, _, hE, hc⟩ := SlAt.at h (List.getElem?_eq_some_iff.1 hx).1
  obtain rfl : vs = Rm.cells y := hE
  rw [hx] at hy; cases hy
  exact ⟨b, off, hA, hlt, by simpa using hc 0 _ rfl, hc 1 _ rfl, hc 2 _ rfl, hc 3 _ rfl⟩

structure Sp where
  kp : List Bool
  pl : List Int
  rm : List Rm
structure SpP where
  Ak : Option Addr
  ck : Nat
  Ap : Option Addr
  cp : Nat
  Ar : Option Addr
  cr : Nat
abbrev Sp.val (s : Sp) (p : SpP) : Value := .agg #[.slice p.Ak s.kp.length p.ck, .slice p.Ap s.pl.length p.cp, .slice p.Ar s.rm.length p.cr]
structure Sp.At (w : World) (s : Sp) (p : SpP) : Prop where
  kp : BoolsAt w p.Ak s.kp
  pl : IntsAt w p.Ap s.pl
  rm : RmsAt w p.Ar s.rm
  lkp : s.kp.length ≤ 4096
  lpl : s.pl.length ≤ 4096
  lrm : s.rm.length ≤ 4096
theorem Sp.At.below {w w' : World} {s : Sp} {p : SpP} (h : Sp.At w s p) (hb : Below w.heap.size w w') : Sp.At w' s p :=
  ⟨h.kp.below BoolE.stays hb, h.pl.below IntE.stays hb, h.rm.below RmE.stays hb, h.lkp, h.lpl, h.lrm⟩

/-- Each number below n is kept, with its place in 'kept', or removed, with its place in the removals. -/
structure Sp.Of (s : Sp) (n : Nat) (kept : List Int) : Prop where
  lk : s.kp.length = n
  lp : s.pl.length = n
  all : ∀ i : Nat, i < n → (s.kp[i]? = some true ∧ ∃ k : Nat, s.pl[i]? = some (k : Int) ∧ kept[k]? = some (i : Int)) ∨ (s.kp[i]? = some false ∧ ∃ (k : Nat) (r : Rm), s.pl[i]? = some (k : Int) ∧ s.rm[k]? = some r ∧ r.st = (i : Int))
  incr : incr kept
  incr' : ∀ (i j : Nat) (x y : Rm), i < j → s.rm[i]? = some x → s.rm[j]? = some y → x.st < y.st

def lowerP (rm : List Rm) (i rank : Int) : Prop := ∃ r, r ∈ rm ∧ r.st = i ∧ r.rank < rank
def alikeP (rm : List Rm) (i rank : Int) : Prop := ∃ r, r ∈ rm ∧ r.st = i ∧ r.rank = rank ∧ r.reason = 3

set_option maxHeartbeats 400000 in
theorem lower_c (s : Sp) (p : SpP) (n : Nat) (kept : List Int) (i : Nat) (rank : Int) (w : World) (h : Sp.At w s p) (ho : s.Of n kept) (hi : i < n) (hx : ∀ r, r ∈ s.rm → r.st = (i : Int) → s.kp[i]? = some false) :
    Calls Try.prog 97 #[s.val p, .int .i64 i, .int .i64 rank] w (Tells (lowerP s.rm i rank) w) := by
  obtain ⟨kp, pl, rm⟩ := s
  obtain ⟨Ak, ck, Ap, cp, Ar, cr⟩ := p
  obtain ⟨hk, hp, hr, lk, lp, lr⟩ := h
  have hik : i < kp.length := by have := ho.lk; simp only at this; omega
  have hip : i < pl.length := by have := ho.lp; simp only at this; omega
  have HA := ho.all i hi
  have HI := Lib.hid ho.incr'
  have HX := Lib.hid hx
  clear ho hx
  dsimp only [Sp.val] at *
  rcases HA with ⟨hki, k, hpi, hkk⟩ | ⟨hki, k, r, hpi, hrk, hst⟩
  · obtain ⟨b1, o1, rfl, l1, e1⟩ := BoolsAt.get hk hki
    have F := Lib.hid (show ¬ lowerP rm i rank from fun ⟨r, h1, h2, _⟩ => by have := HX.out r h1 h2; rw [hki] at this; cases this)
    clear hk hp hr hki hpi hkk
    go_enter Try.func97, Try.ntmps97
    go_wp2_with fail
    go_quiet (fail)
    go_wp2
    go_ret
    exact Tells.no F.out ((Below.new _ _).draws _)
  · obtain ⟨b1, o1, rfl, l1, e1⟩ := BoolsAt.get hk hki
    obtain ⟨b2, o2, rfl, l2, e2⟩ := IntsAt.get hp hpi
    obtain ⟨b3, o3, rfl, l3, _, e3, _, _⟩ := RmsAt.get hr hrk
    have hkl : k < rm.length := (List.getElem?_eq_some_iff.1 hrk).1
    have F := Lib.hid (show lowerP rm i rank ↔ r.rank < rank from ⟨fun ⟨r', h1, h2, h3⟩ => by
      obtain ⟨j, hj, rfl⟩ := List.mem_iff_getElem.1 h1
      by_cases e : j = k
      · subst e; rw [List.getElem?_eq_getElem hj] at hrk; cases hrk; exact h3
      · rcases Nat.lt_or_gt_of_ne e with e | e
        · have := HI.out j k _ _ e (List.getElem?_eq_getElem hj) hrk; omega
        · have := HI.out k j _ _ e hrk (List.getElem?_eq_getElem hj); omega, fun h => ⟨r, List.mem_of_getElem? hrk, hst, h⟩⟩)
    clear hk hp hr hki hpi hrk hst
    generalize r.rank = q at e3 F
    go_enter Try.func97, Try.ntmps97
    go_wp2_with fail
    go_quiet (fail)
    go_wp2
    go_ret
    exact ⟨_, rfl, by rw [F.out]; simp, (Below.new _ _).draws _⟩

set_option maxHeartbeats 400000 in
theorem alike_c (s : Sp) (p : SpP) (n : Nat) (kept : List Int) (i : Nat) (rank : Int) (w : World) (h : Sp.At w s p) (ho : s.Of n kept) (hi : i < n) (hx : ∀ r, r ∈ s.rm → r.st = (i : Int) → s.kp[i]? = some false) :
    Calls Try.prog 99 #[s.val p, .int .i64 i, .int .i64 rank] w (Tells (alikeP s.rm i rank) w) := by
  obtain ⟨kp, pl, rm⟩ := s
  obtain ⟨Ak, ck, Ap, cp, Ar, cr⟩ := p
  obtain ⟨hk, hp, hr, lk, lp, lr⟩ := h
  have hik : i < kp.length := by have := ho.lk; simp only at this; omega
  have hip : i < pl.length := by have := ho.lp; simp only at this; omega
  have HA := ho.all i hi
  have HI := Lib.hid ho.incr'
  have HX := Lib.hid hx
  clear ho hx
  dsimp only [Sp.val] at *
  rcases HA with ⟨hki, k, hpi, hkk⟩ | ⟨hki, k, r, hpi, hrk, hst⟩
  · obtain ⟨b1, o1, rfl, l1, e1⟩ := BoolsAt.get hk hki
    have F := Lib.hid (show ¬ alikeP rm i rank from fun ⟨r, h1, h2, _⟩ => by have := HX.out r h1 h2; rw [hki] at this; cases this)
    clear hk hp hr hki hpi hkk
    go_enter Try.func99, Try.ntmps99
    go_wp2_with fail
    go_quiet (fail)
    go_wp2
    go_ret
    exact Tells.no F.out ((Below.new _ _).draws _)
  · obtain ⟨b1, o1, rfl, l1, e1⟩ := BoolsAt.get hk hki
    obtain ⟨b2, o2, rfl, l2, e2⟩ := IntsAt.get hp hpi
    obtain ⟨b3, o3, rfl, l3, _, e3, e4, _⟩ := RmsAt.get hr hrk
    have hkl : k < rm.length := (List.getElem?_eq_some_iff.1 hrk).1
    have F := Lib.hid (show alikeP rm i rank ↔ r.rank = rank ∧ r.reason = 3 from ⟨fun ⟨r', h1, h2, h3⟩ => by
      obtain ⟨j, hj, rfl⟩ := List.mem_iff_getElem.1 h1
      by_cases e : j = k
      · subst e; rw [List.getElem?_eq_getElem hj] at hrk; cases hrk; exact h3
      · rcases Nat.lt_or_gt_of_ne e with e | e
        · have := HI.out j k _ _ e (List.getElem?_eq_getElem hj) hrk; omega
        · have := HI.out k j _ _ e hrk (List.getElem?_eq_getElem hj); omega, fun h => ⟨r, List.mem_of_getElem? hrk, hst, h⟩⟩)
    clear hk hp hr hki hpi hrk hst
    generalize r.rank = q at e3 F
    generalize r.reason = z at e4 F
    by_cases hq : q = rank
    · subst hq
      go_enter Try.func99, Try.ntmps99
      go_wp2_with fail
      go_quiet (fail)
      go_wp2
      go_ret
      exact ⟨_, rfl, by rw [F.out]; simp, (Below.new _ _).draws _⟩
    · have hq' : (q == rank) = false := by simpa using hq
      have F2 := Lib.hid (show ¬ alikeP rm i rank from fun h => hq (F.out.1 h).1)
      go_enter Try.func99, Try.ntmps99
      go_wp2_with fail
      go_quiet (fail)
      go_wp2
      go_ret
      exact Tells.no F2.out ((Below.new _ _).draws _)
end Go.Proofs.Ytkbmenpggiojeaa
