/-
  The checker's twin: plants, keys of pairs, and where moves lead.
-/
import Derived.Test.YtkbmenpggiojeaaKc
import Derived.Test.YtkbmenpggiojeaaKn
import Derived.Test.YtkbmenpggiojeaaKp
import Derived.Deep.RegionHeld3
import Derived.BigRegion
namespace Go.Proofs.Ytkbmenpggiojeaa
open Go.RowKit
set_option linter.unusedSimpArgs false
set_option linter.unusedVariables false

structure Ev where
  name : ByteArray
  ctl : Bool
  obs : Bool
  frc : Bool
  fault : Int
def Ev.cells (x : Ev) : List Value := [.string x.name, .bool x.ctl, .bool x.obs, .bool x.frc, .int .i64 x.fault]
def EvE : Reading Ev := fun _ x vs => vs = Ev.cells x
theorem EvE.stays : Stays EvE := fun _ _ _ _ _ h => h
abbrev EvsAt := SlAt EvE 5
theorem EvsAt.get {w : World} {A : Option Addr} {l : List Ev} (h : EvsAt w A l) {k : Nat} {x : Ev} (hx : l[k]? = some x) : ∃ b off, A = some ⟨b, off, none⟩ ∧ b < w.heap.size ∧
    w.cell? ⟨b, off + k * 5 + 2, none⟩ = some (.bool x.obs) ∧ w.cell? ⟨b, off + k * 5 + 4, none⟩ = some (.int .i64 x.fault) := by
  obtain ⟨b, off, y, vs, hA, hlt, hy, _, hE, hc⟩ := SlAt.at h (List.getElem?_eq_some_iff.1 hx).1
  obtain rfl : vs = Ev.cells y := hE
  rw [hx] at hy; cases hy
  exact ⟨b, off, hA, hlt, hc 2 _ rfl, hc 4 _ rfl⟩

structure Pa where
  fst : Int
  snd : Int
  rk : Int
deriving DecidableEq
def Pa.cells (x : Pa) : List Value := [.int .i64 x.fst, .int .i64 x.snd, .int .i64 x.rk]
def PaE : Reading Pa := fun _ x vs => vs = Pa.cells x
theorem PaE.stays : Stays PaE := fun _ _ _ _ _ h => h
abbrev PasAt := SlAt PaE 3
theorem PasAt.get {w : World} {A : Option Addr} {l : List Pa} (h : PasAt w A l) {k : Nat} {x : Pa} (hx : l[k]? = some x) : ∃ b off, A = some ⟨b, off, none⟩ ∧ b < w.heap.size ∧
    w.cell? ⟨b, off + k * 3, none⟩ = some (.int .i64 x.fst) ∧ w.cell? ⟨b, off + k * 3 + 1, none⟩ = some (.int .i64 x.snd) ∧ w.cell? ⟨b, off + k * 3 + 2, none⟩ = some (.int .i64 x.rk) := by
  obtain ⟨b, off, y, vs, hA, hlt, hy, _, hE, hc⟩ := SlAt.at h (List.getElem?_eq_some_iff.1 hx).1
  obtain rfl : vs = Pa.cells y := hE
  rw [hx] at hy; cases hy
  exact ⟨b, off, hA, hlt, by simpa using hc 0 _ rfl, hc 1 _ rfl, hc 2 _ rfl⟩

structure PlantOk (nev : Nat) (au : Au) (class_ : Int) : Prop where
  ha : au.Right
  c1 : 1 ≤ class_
  c4 : class_ ≤ 4
  hev : ∀ x, x ∈ au.al → x < nev

set_option maxHeartbeats 400000 in
theorem plant_c (nev : Nat) (AE : Option Addr) (cE : Nat) (au : Au) (p : AuP) (class_ : Int) (w : World) (hp : Au.At w au p) (hnev : nev ≤ 140737488355328) :
    Calls Try.prog 36 #[.slice AE nev cE, au.val p, .int .i64 class_] w (Tells (PlantOk nev au class_) w) := by
  have HA := Lib.hid (Automaton_c au p (w.alloc (.cells #[.slice p.A1 au.al.length p.c1, .int .i64 au.n, .slice p.A2 au.mr.length p.c2, .slice p.A3 au.ed.length p.c3] 39)) (hp.below (Below.new _ _)))
  obtain ⟨al, m, mr, ed⟩ := au
  obtain ⟨A1, c1, A2, c2, A3, c3⟩ := p
  have HP := Lib.hid hp
  have la : al.length ≤ 140737488355328 := hp.lal
  clear hp
  dsimp only [Au.val] at *
  go_enter Try.func36, Try.ntmps36
  go_wp2_with fail
  refine HA.out.mono ?_
  intro e w1 hs
  rcases hs.no1 with ⟨rfl, S, hb⟩ | ⟨rfl, S, hb⟩
  · go_wp2
    go_ret
    exact Tells.no (fun h => S.out h.ha) ((Below.new _ _).trans (hb.mono (by simp)))
  have q0 : w1.cell? ⟨w.heap.size, 0, none⟩ = some (.slice A1 al.length c1) := old_cell hb (new_cell w _ [_, _, _, _] _ 0 rfl) (by simp)
  have BW : Hid (Below w.heap.size w w1) := (Below.new _ _).trans (hb.mono (by simp))
  clear hb
  by_cases h1 : class_ < 1
  · go_wp2
    go_ret
    exact Tells.no (fun h => by have := h.c1; omega) BW.out
  by_cases h4 : 4 < class_
  · go_wp2
    go_ret
    exact Tells.no (fun h => by have := h.c4; omega) BW.out
  have H14 := Lib.hid (show 1 ≤ class_ ∧ class_ ≤ 4 from ⟨by omega, by omega⟩)
  by_cases hl : al.length = 0
  · have hl' : ((al.length : Int) == 0) = true := by simp; exact List.eq_nil_of_length_eq_zero hl
    have HAL := Lib.hid (List.eq_nil_of_length_eq_zero hl)
    clear hl
    go_wp2
    all_goals go_ret
    all_goals exact ⟨_, rfl, by simp; exact ⟨S.out, H14.out.1, H14.out.2, fun x hx => by rw [HAL.out] at hx; cases hx⟩, BW.out⟩
  · have hl' : ((al.length : Int) == 0) = false := by simp; exact fun h => hl (by rw [h]; rfl)
    have hl2 : 0 < al.length := by omega
    obtain ⟨b, off, x, hA1, hb1, hx, hc⟩ := IntsAt.at (HP.out.al.below IntE.stays BW.out) (k := al.length - 1) (by simp only; omega)
    simp only at hA1
    subst hA1
    have LAST := Lib.hid (show (∀ y, y ∈ al → y < (nev : Int)) ↔ x < nev from ⟨fun h => h x (List.mem_of_getElem? hx), fun h y hy => by
      obtain ⟨j, hj, rfl⟩ := List.mem_iff_getElem.1 hy
      by_cases e : j = al.length - 1
      · have : al[j]? = some x := by rw [e]; exact hx
        rw [List.getElem?_eq_getElem hj] at this; cases this; exact h
      · have := S.out.al.incr j (al.length - 1) al[j] x (by omega) (List.getElem?_eq_getElem hj) hx
        omega⟩)
    clear hl hx
    go_wp2
    all_goals go_ret
    all_goals refine ⟨_, rfl, ?_, BW.out⟩
    all_goals rw [decide_eq_true_eq]
    all_goals exact ⟨fun h => ⟨S.out, H14.out.1, H14.out.2, LAST.out.2 h⟩, fun h => LAST.out.1 h.hev⟩

set_option maxHeartbeats 400000 in
theorem key_c (f s : Int) (b : Bool) (w : World) :
    Calls Try.prog 38 #[.int .i64 f, .int .i64 s, .bool b] w fun e w' => e = .returned (.agg #[.int .i64 f, .int .i64 s, .int .i64 (if b then 1 else 0)]) ∧ Below w.heap.size w w' := by
  cases b with
  | true =>
    go_enter Try.func38, Try.ntmps38
    go_wp2
    exact bodyPost_ret (v := .agg #[.int .i64 f, .int .i64 s, .int .i64 1]) (by simp [results, Try.results38, go_sem]) rfl ⟨by simp, Below.new _ _⟩
  | false =>
    go_enter Try.func38, Try.ntmps38
    go_wp2
    exact bodyPost_ret (v := .agg #[.int .i64 f, .int .i64 s, .int .i64 0]) (by simp [results, Try.results38, go_sem]) rfl ⟨by simp, Below.new _ _⟩
end Go.Proofs.Ytkbmenpggiojeaa
