/-
  The checker's looks at a kept state and at a removal: their function values.
-/
import Derived.Test.YtkbmenpggiojeaaKg
namespace Go.Proofs.Ytkbmenpggiojeaa
open Go.RowKit
set_option linter.unusedSimpArgs false
set_option linter.unusedVariables false

set_option maxHeartbeats 400000 in
theorem keeps1_c (bs bp : Nat) (Ak : Option Addr) (ck : Nat) (kp : List Bool) (AU : Option Addr) (cU : Nat) (unc : List Int) (src ev : Int) (dst : Nat) (kd : Bool) (w : World)
    (hs : w.cell? ⟨bs, 0, none⟩ = some (.slice Ak kp.length ck)) (hk : BoolsAt w Ak kp) (hkd : kp[dst]? = some kd) (lk : kp.length ≤ 4096) (hbs : bs < w.heap.size)
    (hp : w.cell? ⟨bp, 5, none⟩ = some (.slice AU unc.length cU)) (hu : IntsAt w AU unc) (lu : unc.length ≤ 140737488355328) (hi : incr unc) (hbp : bp < w.heap.size) :
    Calls Try.prog 94 #[.agg #[.int .i64 src, .int .i64 ev, .int .i64 dst], .pointer (some ⟨bs, 0, none⟩), .pointer (some ⟨bp, 0, none⟩)] w (Tells (kd = false ∧ ev ∈ unc) w) := by
  obtain ⟨b1, o1, rfl, l1, e1⟩ := BoolsAt.get hk hkd
  have hdl : dst < kp.length := (List.getElem?_eq_some_iff.1 hkd).1
  have HU := Lib.hid hu
  have HI := Lib.hid hi
  clear hk hu hi hkd
  cases kd with
  | true =>
    go_enter Try.func94, Try.ntmps94
    go_wp2
    go_ret
    exact Tells.no (by simp) (Below.new _ _)
  | false =>
    go_enter Try.func94, Try.ntmps94
    go_wp2_with fail
    refine (has_c AU cU unc ev _ (HU.out.below IntE.stays (Below.new _ _)) (by omega) HI.out).mono ?_
    rintro e w1 ⟨r, rfl, hr, rfl⟩
    have HR := Lib.hid hr
    clear hr
    go_wp2
    go_ret
    exact ⟨r, rfl, by rw [HR.out]; simp, Below.new _ _⟩

set_option maxHeartbeats 400000 in
theorem keeps2_c (bs bd b0 : Nat) (Ak Ap AD : Option Addr) (ck cp cD : Nat) (kp : List Bool) (pl dist : List Int) (src ev : Int) (dst k : Nat) (d d1 : Int) (w : World) (kd : Bool)
    (hs : w.cell? ⟨bs, 0, none⟩ = some (.slice Ak kp.length ck)) (hs1 : w.cell? ⟨bs, 1, none⟩ = some (.slice Ap pl.length cp)) (hk : BoolsAt w Ak kp) (hkd : kp[dst]? = some kd) (lk : kp.length ≤ 4096) (lp : pl.length ≤ 4096) (ld : dist.length ≤ 4096) (hbs : bs < w.heap.size)
    (hd : w.cell? ⟨bd, 0, none⟩ = some (.slice AD dist.length cD)) (hbd : bd < w.heap.size) (hD : IntsAt w AD dist) (hP : IntsAt w Ap pl)
    (h0 : w.cell? ⟨b0, 0, none⟩ = some (.int .i64 d)) (hb0 : b0 < w.heap.size) (hpl : kd = true → pl[dst]? = some (k : Int)) (hdd : kd = true → dist[k]? = some d1) :
    Calls Try.prog 95 #[.agg #[.int .i64 src, .int .i64 ev, .int .i64 dst], .pointer (some ⟨bs, 0, none⟩), .pointer (some ⟨bd, 0, none⟩), .pointer (some ⟨b0, 0, none⟩)] w (Tells (kd = true ∧ d1 < d) w) := by
  obtain ⟨b1, o1, rfl, l1, e1⟩ := BoolsAt.get hk hkd
  have hdl : dst < kp.length := (List.getElem?_eq_some_iff.1 hkd).1
  clear hk hkd
  cases kd with
  | false =>
    clear hpl hdd hD hP
    go_enter Try.func95, Try.ntmps95
    go_wp2_with fail
    go_quiet (fail)
    go_wp2
    go_ret
    exact Tells.no (by simp) ((Below.new _ _).draws _)
  | true =>
    have hpl' := hpl rfl
    have hdd' := hdd rfl
    obtain ⟨b2, o2, rfl, l2, e2⟩ := IntsAt.get hP hpl'
    obtain ⟨b3, o3, rfl, l3, e3⟩ := IntsAt.get hD hdd'
    have hkl : k < dist.length := (List.getElem?_eq_some_iff.1 hdd').1
    have hpl2 : dst < pl.length := (List.getElem?_eq_some_iff.1 hpl').1
    clear hpl hdd hpl' hdd' hD hP
    go_enter Try.func95, Try.ntmps95
    go_wp2_with fail
    go_quiet (fail)
    go_wp2
    go_ret
    exact ⟨_, rfl, by simp, (Below.new _ _).draws _⟩
end Go.Proofs.Ytkbmenpggiojeaa
