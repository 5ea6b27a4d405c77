/-
  The edges of an automaton as a map, and where a word leads.
-/
import Derived.Test.YtkbmenpggiojeaaKc
import Derived.Test.YtkbmenpggiojeaaKn
namespace Go.Proofs.Ytkbmenpggiojeaa
open Go.RowKit
set_option linter.unusedSimpArgs false
set_option linter.unusedVariables false

def stepOf (l : List Ed) (y : Int × Int) : Option Int := (l.reverse.find? fun e => decide ((e.src, e.ev) = y)).map (·.dst)
theorem stepOf_snoc (l : List Ed) (x : Ed) (y : Int × Int) : stepOf (l ++ [x]) y = if y = (x.src, x.ev) then some x.dst else stepOf l y := by
  by_cases h : y = (x.src, x.ev)
  · subst h; simp [stepOf]
  · have : ¬ (x.src, x.ev) = y := fun h2 => h h2.symm
    simp [stepOf, this, h]

def Maps {κ : Type} [DecidableEq κ] (key : κ → Value) (f : κ → Option Int) (w : World) (e : Ending) (w' : World) : Prop := ∃ b, e = .returned (.map (some b)) ∧ w.heap.size ≤ b ∧ MapAt key w' b f ∧ Below w.heap.size w w'

set_option maxHeartbeats 400000 in
theorem steps_c (a : Au) (p : AuP) (w : World) (h3 : EdsAt w p.A3 a.ed) (l3 : a.ed.length ≤ 140737488355328) :
    Calls Try.prog 42 #[a.val p] w (Maps key2 (stepOf a.ed) w) := by
  obtain ⟨al, n, mr, ed⟩ := a
  obtain ⟨A1, c1, A2, c2, A3, c3⟩ := p
  dsimp only [Au.val] at *
  have G3 := Lib.hid h3
  clear h3
  have hmm := @run_makeMap Try.prog
  go_enter Try.func42, Try.ntmps42
  go_wp2
  go_loopw [10] (fun i wr => ∃ k : Nat, k ≤ ed.length ∧ i = .int .i64 k ∧ Hid (Below w.heap.size w wr) ∧ Hid (MapAt key2 wr (w.heap.size + 1) (stepOf (ed.take k)))) (fun i _ => ed.length - (intOf i).toNat)
  case atStart => exact ⟨0, by omega, rfl, ((Below.new _ _).alloc (by simp) _), Lib.hid (by have := MapAt.made key2 (w.alloc (.cells #[.slice A1 al.length c1, .int .i64 n, .slice A2 mr.length c2, .slice A3 ed.length c3] 39)); simp at this; exact this.congr (fun x => rfl))⟩
  case round =>
    obtain ⟨k, hk, rfl, BW, HM⟩ := hrel
    have hsz : w.heap.size + 1 < wr.heap.size := HM.out.lt
    by_cases hlt : k < ed.length
    · obtain ⟨b, off, x, hA3, hb, hx, e0, e1, e2⟩ := EdsAt.at (G3.out.below EdE.stays BW.out) hlt
      obtain ⟨src, ev, dst⟩ := x
      subst hA3
      dsimp only at e0 e1 e2
      go_wp2_with (at_mapUpdate; refine wpList_mapUpdate_at _ rfl _ _ _ 109 143 3 rfl _ key2 ok2 Try.underlying109 (w.heap.size + 1) (stepOf (ed.take k)) (src, ev) dst rfl (HM.out.alloc _) rfl rfl ?_; intro w1 hm1 hg1; have HM1 := Lib.hid hm1; clear hm1; have HG1 := Lib.hid hg1; clear hg1)
      go_roundw
      case rel => exact ⟨k + 1, by omega, by go_num, ((BW.out.alloc (by omega) _).grown HG1.out (by simp; omega) (fun j hj => by cases hj; omega)), HM1.out.congr (fun y => by rw [List.take_add_one, hx]; exact stepOf_snoc _ _ _)⟩
      case measure => simp [intOf]; omega
    · obtain rfl : k = ed.length := by omega
      go_wp2
      go_ret
      exact ⟨w.heap.size + 1, rfl, by omega, HM.out.congr (fun y => by rw [List.take_length]), BW.out⟩

def toV (f : Int × Int → Option Int) (s e : Int) : Int := (f (s, e)).getD (-1)
set_option maxHeartbeats 400000 in
theorem to_c (b : Nat) (f : Int × Int → Option Int) (s e : Int) (w : World) (h : MapAt key2 w b f) :
    Calls Try.prog 72 #[.map (some b), .int .i64 s, .int .i64 e] w fun r w' => r = .returned (.int .i64 (toV f s e)) ∧ w = w' := by
  have hl : (Instr.lookup 109 (.map (some b)) (.agg #[.int .i64 s, .int .i64 e]) true).run Try.prog w = .ok (.tuple #[.int .i64 ((f (s, e)).getD 0), .bool (f (s, e)).isSome]) w := MapAt.look ok2 Try.underlying109 zeroInt h (s, e)
  clear h
  unfold toV
  cases hf : f (s, e) with
  | none =>
    rw [hf] at hl
    clear hf
    go_enter Try.func72, Try.ntmps72
    go_wp2
    go_ret
    exact ⟨rfl, rfl⟩
  | some t =>
    rw [hf] at hl
    clear hf
    go_enter Try.func72, Try.ntmps72
    go_wp2
    go_ret
    exact ⟨rfl, rfl⟩

/-- Where a word leads, or -1. -/
def followV (f : Int × Int → Option Int) (s : Int) : List Int → Int
  | [] => s
  | e :: r => if toV f s e = -1 then -1 else followV f (toV f s e) r

set_option maxHeartbeats 400000 in
theorem follow_c (b : Nat) (f : Int × Int → Option Int) (s : Int) (A : Option Addr) (c : Nat) (l : List Int) (w : World) (h : MapAt key2 w b f) (hA : IntsAt w A l) (hl : l.length ≤ 140737488355328) :
    Calls Try.prog 43 #[.map (some b), .int .i64 s, .slice A l.length c] w fun r w' => r = .returned (.int .i64 (followV f s l)) ∧ w = w' := by
  have HM := Lib.hid h; clear h
  have HA := Lib.hid hA; clear hA
  go_enter Try.func43, Try.ntmps43
  go_wp2
  go_loop [1, 11] (fun a i => ∃ (k : Nat) (t : Int), k ≤ l.length ∧ a = .int .i64 t ∧ i = .int .i64 k ∧ Hid (followV f s l = followV f t (l.drop k))) (fun _ i => l.length - (intOf i).toNat)
  case atStart => exact ⟨0, s, by omega, rfl, rfl, rfl⟩
  case round =>
    obtain ⟨k, t, hk, rfl, rfl, H⟩ := hrel
    by_cases hlt : k < l.length
    · obtain ⟨b1, off, x, rfl, hb, hx, hcx⟩ := IntsAt.at HA.out hlt
      have hd : l.drop k = x :: l.drop (k + 1) := by
        rw [List.drop_eq_getElem_cons hlt]
        rw [List.getElem?_eq_getElem hlt] at hx
        cases hx; rfl
      have hfl : Hid (followV f s l = if toV f t x = -1 then -1 else followV f (toV f t x) (l.drop (k + 1))) := by
        have := H.out; rw [hd] at this; exact this
      clear hd
      go_wp2_with fail
      refine (to_c b f t x _ HM.out).mono ?_
      rintro e w1 ⟨rfl, rfl⟩
      generalize toV f t x = z at hfl
      by_cases hz : z = -1
      · subst hz
        go_wp2
        go_ret
        exact ⟨ret_int (by rw [hfl.out]; simp), rfl⟩
      · have hz' : (z == -1) = false := by simpa using hz
        go_wp2
        go_round
        case rel => exact ⟨k + 1, z, by omega, rfl, by go_num, hfl.out.trans (if_neg hz)⟩
        case measure => simp [intOf]; omega
    · obtain rfl : k = l.length := by omega
      go_wp2
      go_ret
      exact ⟨ret_int (by rw [H.out, List.drop_length]; rfl), rfl⟩
end Go.Proofs.Ytkbmenpggiojeaa
