/-
  The checker's twin: where a move leads.
-/
import Derived.Test.YtkbmenpggiojeaaLa
import Derived.Test.YtkbmenpggiojeaaKf
import Derived.Deep.DeepCutAuto
namespace Go.Proofs.Ytkbmenpggiojeaa
open Go.RowKit
set_option linter.unusedSimpArgs false
set_option linter.unusedVariables false

abbrev Ranks := Int × Int × Int → Option Int
structure TwAt (w : World) (bt bm : Nat) (AE : Option Addr) (cE : Nat) (evs : List Ev) (class_ bound : Int) (AO : Option Addr) (cO n : Nat) (ed : List Ed) (f : Ranks) : Prop where
  c0 : w.cell? ⟨bt, 0, none⟩ = some (.slice AE evs.length cE)
  c1 : w.cell? ⟨bt, 1, none⟩ = some (.int .i64 class_)
  c2 : w.cell? ⟨bt, 2, none⟩ = some (.int .i64 bound)
  c3 : w.cell? ⟨bt, 3, none⟩ = some (.slice AO n cO)
  c4 : w.cell? ⟨bt, 4, none⟩ = some (.map (some bm))
  ev : EvsAt w AE evs
  rows : RowsAt EdE 3 w AO (outs ed n)
  mp : MapAt key3 w bm f
  z : bt < w.heap.size
theorem TwAt.below {w w' : World} {bt bm : Nat} {AE : Option Addr} {cE : Nat} {evs : List Ev} {class_ bound : Int} {AO : Option Addr} {cO n : Nat} {ed : List Ed} {f : Ranks} (h : TwAt w bt bm AE cE evs class_ bound AO cO n ed f) (hb : Below w.heap.size w w') : TwAt w' bt bm AE cE evs class_ bound AO cO n ed f :=
  ⟨old_cell hb h.c0 h.z, old_cell hb h.c1 h.z, old_cell hb h.c2 h.z, old_cell hb h.c3 h.z, old_cell hb h.c4 h.z, h.ev.below EvE.stays hb, h.rows.below (RowE.stays EdE.stays) hb, h.mp.below hb h.mp.lt, Nat.lt_of_lt_of_le h.z hb.size⟩

def leadsP (f : Ranks) (bound : Int) (isF : Prop) (rk first second : Int) (moves : Bool) : Prop :=
  (rk = -1 ∧ moves = true ∧ isF → ∃ r, f (first, second, 1) = some r ∧ r < bound) ∧
  (¬ (rk = -1 ∧ moves = true ∧ isF) → ∃ r, f (first, second, if rk = -1 then 0 else 1) = some r ∧ (rk ≠ -1 → if moves = true then r < rk else r ≤ rk))

set_option maxRecDepth 100000 in
set_option maxHeartbeats 1000000 in
theorem leads_c (bt bm : Nat) (AE : Option Addr) (cE : Nat) (evs : List Ev) (class_ bound : Int) (AO : Option Addr) (cO n : Nat) (ed : List Ed) (f : Ranks) (p : Pa) (first second : Int) (ev : Nat) (x : Ev) (moves : Bool) (w : World)
    (h : TwAt w bt bm AE cE evs class_ bound AO cO n ed f) (hev : evs[ev]? = some x) (lev : evs.length ≤ 140737488355328) :
    Calls Try.prog 76 #[.pointer (some ⟨bt, 0, none⟩), .agg #[.int .i64 p.fst, .int .i64 p.snd, .int .i64 p.rk], .int .i64 first, .int .i64 second, .int .i64 ev, .bool moves] w (Tells (leadsP f bound (x.fault = class_) p.rk first second moves) w) := by
  obtain ⟨p1, p2, rk⟩ := p
  obtain ⟨b, off, hA, hb, _, e4⟩ := EvsAt.get h.ev hev
  subst hA
  have hel : ev < evs.length := (List.getElem?_eq_some_iff.1 hev).1
  have B0 := Lib.hid (Below.new w (.cells #[.int .i64 p1, .int .i64 p2, .int .i64 rk] 46))
  have T := Lib.hid (h.below B0.out)
  have c0 := h.c0
  have c1 := h.c1
  have z := h.z
  clear h hev
  generalize x.fault = fa at e4
  by_cases hr : rk = -1
  · subst hr
    cases moves with
    | true =>
      by_cases hf : fa = class_
      · subst hf
        go_enter Try.func76, Try.ntmps76
        go_wp2_with fail
        go_quiet (fail)
        have BQ := Lib.hid ((Below.refl (w.alloc (.cells #[.int .i64 p1, .int .i64 p2, .int .i64 (-1)] 46)).heap.size (w.alloc (.cells #[.int .i64 p1, .int .i64 p2, .int .i64 (-1)] 46))).draws nq)
        have TQ := Lib.hid (T.out.below BQ.out)
        have BWQ := Lib.hid (B0.out.trans (BQ.out.mono B0.out.size))
        have QR := Lib.hid (old_cell BQ.out (new_cell w _ [_, _, _] _ 2 rfl) (by simp))
        go_wp2
        clear BQ T B0
        generalize hW : (w.alloc (.cells #[.int .i64 p1, .int .i64 p2, .int .i64 (-1)] 46)).drewN nq = W at *
        clear hW
        have d4 := TQ.out.c4
        have d2 := TQ.out.c2
        have dr : W.cell? ⟨w.heap.size, 2, none⟩ = some (.int .i64 (-1)) := QR.out
        have zt := TQ.out.z
        have zw : w.heap.size < W.heap.size := Nat.lt_of_not_le (fun h => by unfold World.cell? at dr; rw [Array.getElem?_eq_none h] at dr; cases dr)
        have KW := Lib.hid (fun (t : Int) (w2 : World) (hb : Below W.heap.size W w2) => (show (Instr.lookup 97 (.map (some bm)) (.agg #[.int .i64 first, .int .i64 second, .int .i64 t]) true).run Try.prog w2 = .ok (.tuple #[.int .i64 ((f (first, second, t)).getD 0), .bool (f (first, second, t)).isSome]) w2 from MapAt.look ok3 Try.underlying97 zeroInt (TQ.out.mp.below hb TQ.out.mp.lt) (first, second, t)))
        go_cut [13, 14] (fun a b wx => a = .int .i64 ((f (first, second, 1)).getD 0) ∧ b = .bool (f (first, second, 1)).isSome ∧ Hid (Below W.heap.size W wx))
        case first =>
          go_region_held3 (fun W' => W'.cell? ⟨bt, 4, none⟩ = some (.map (some bm)) ∧ W'.cell? ⟨w.heap.size, 2, none⟩ = some (.int .i64 (-1))) (first | exact ⟨s4, s2⟩ | go_keep) (
            first | (go_at_call 38
                     refine (key_c first second true _).mono ?_
                     rintro e w2 ⟨rfl, hb2⟩
                     have s4 : w2.cell? ⟨bt, 4, none⟩ = some (.map (some bm)) := old_cell hb2 d4 zt
                     have s2 : w2.cell? ⟨w.heap.size, 2, none⟩ = some (.int .i64 (-1)) := old_cell hb2 dr zw
                     have hl := KW.out 1 w2 ((Below.refl _ W).drew.trans hb2)
                     have HB2 := Lib.hid ((Below.refl _ W).drew.trans hb2)
                     clear hb2))
          all_goals go_wp2_with fail
          all_goals go_meet
          all_goals exact ⟨rfl, rfl, HB2⟩
        case rest =>
          obtain ⟨rfl, rfl, BC⟩ := hcut
          have BWC := Lib.hid (BWQ.out.trans (BC.out.mono BWQ.out.size))
          have d2' := old_cell BC.out d2 zt
          have dr' := old_cell BC.out dr zw
          clear d4 d2 dr KW
          cases hv : f (first, second, 1) with
          | none =>
            have NO := Lib.hid (show ¬ leadsP f bound (fa = fa) (-1) first second true from fun h => by obtain ⟨r, h1, _⟩ := h.1 ⟨rfl, rfl, rfl⟩; rw [hv] at h1; cases h1)
            clear hv
            go_wp2
            go_ret
            exact Tells.no NO.out BWC.out
          | some r =>
            have YES := Lib.hid (show leadsP f bound (fa = fa) (-1) first second true ↔ r < bound from ⟨fun h => by obtain ⟨r', h1, h2⟩ := h.1 ⟨rfl, rfl, rfl⟩; rw [hv] at h1; cases h1; exact h2, fun h => ⟨fun _ => ⟨r, hv, h⟩, fun h2 => absurd ⟨rfl, rfl, rfl⟩ h2⟩⟩)
            clear hv
            go_wp2
            go_ret
            exact ⟨_, rfl, by rw [YES.out]; simp, BWC.out⟩
      · have hf' : (fa == class_) = false := by simpa using hf
        have HF := Lib.hid hf
        clear hf
        go_enter Try.func76, Try.ntmps76
        go_wp2_with fail
        go_quiet (fail)
        have BQ := Lib.hid ((Below.refl (w.alloc (.cells #[.int .i64 p1, .int .i64 p2, .int .i64 (-1)] 46)).heap.size (w.alloc (.cells #[.int .i64 p1, .int .i64 p2, .int .i64 (-1)] 46))).draws nq)
        have TQ := Lib.hid (T.out.below BQ.out)
        have BWQ := Lib.hid (B0.out.trans (BQ.out.mono B0.out.size))
        have QR := Lib.hid (old_cell BQ.out (new_cell w _ [_, _, _] _ 2 rfl) (by simp))
        go_wp2
        clear BQ T B0
        generalize hW : (w.alloc (.cells #[.int .i64 p1, .int .i64 p2, .int .i64 (-1)] 46)).drewN nq = W at *
        clear hW
        have d4 := TQ.out.c4
        have d2 := TQ.out.c2
        have dr : W.cell? ⟨w.heap.size, 2, none⟩ = some (.int .i64 (-1)) := QR.out
        have zt := TQ.out.z
        have zw : w.heap.size < W.heap.size := Nat.lt_of_not_le (fun h => by unfold World.cell? at dr; rw [Array.getElem?_eq_none h] at dr; cases dr)
        have KW := Lib.hid (fun (t : Int) (w2 : World) (hb : Below W.heap.size W w2) => (show (Instr.lookup 97 (.map (some bm)) (.agg #[.int .i64 first, .int .i64 second, .int .i64 t]) true).run Try.prog w2 = .ok (.tuple #[.int .i64 ((f (first, second, t)).getD 0), .bool (f (first, second, t)).isSome]) w2 from MapAt.look ok3 Try.underlying97 zeroInt (TQ.out.mp.below hb TQ.out.mp.lt) (first, second, t)))
        go_cut [15, 16] (fun a b wx => a = .int .i64 ((f (first, second, 0)).getD 0) ∧ b = .bool (f (first, second, 0)).isSome ∧ Hid (Below W.heap.size W wx))
        case first =>
          go_region_held3 (fun W' => W'.cell? ⟨bt, 4, none⟩ = some (.map (some bm)) ∧ W'.cell? ⟨w.heap.size, 2, none⟩ = some (.int .i64 (-1))) (first | exact ⟨s4, s2⟩ | go_keep) (
            first | (go_at_call 38
                     refine (key_c first second false _).mono ?_
                     rintro e w2 ⟨rfl, hb2⟩
                     have s4 : w2.cell? ⟨bt, 4, none⟩ = some (.map (some bm)) := old_cell hb2 d4 zt
                     have s2 : w2.cell? ⟨w.heap.size, 2, none⟩ = some (.int .i64 (-1)) := old_cell hb2 dr zw
                     have hl := KW.out 0 w2 ((Below.refl _ W).drew.trans hb2)
                     have HB2 := Lib.hid ((Below.refl _ W).drew.trans hb2)
                     clear hb2))
          all_goals go_wp2_with fail
          all_goals go_meet
          all_goals exact ⟨rfl, rfl, HB2⟩
        case rest =>
          obtain ⟨rfl, rfl, BC⟩ := hcut
          have BWC := Lib.hid (BWQ.out.trans (BC.out.mono BWQ.out.size))
          have d2' := old_cell BC.out d2 zt
          have dr' := old_cell BC.out dr zw
          clear d4 d2 dr KW
          have IFF := Lib.hid (show leadsP f bound (fa = class_) (-1) first second true ↔ (f (first, second, 0)).isSome = true from ⟨fun h => by obtain ⟨r, h1, _⟩ := h.2 (fun h => HF.out h.2.2); simp at h1; simp [h1], fun h => ⟨fun h2 => absurd h2.2.2 HF.out, fun _ => by obtain ⟨r, hr⟩ := Option.isSome_iff_exists.1 h; exact ⟨r, by simpa using hr, fun h => absurd rfl h⟩⟩⟩)
          cases hv : (f (first, second, 0)).isSome <;> rw [hv] at IFF <;> clear hv <;> go_wp2 <;> go_ret <;> exact ⟨_, rfl, (by rw [IFF.out] <;> simp), BWC.out⟩
    | false =>
      go_enter Try.func76, Try.ntmps76
      go_wp2_with fail
      go_quiet (fail)
      have BQ := Lib.hid ((Below.refl (w.alloc (.cells #[.int .i64 p1, .int .i64 p2, .int .i64 (-1)] 46)).heap.size (w.alloc (.cells #[.int .i64 p1, .int .i64 p2, .int .i64 (-1)] 46))).draws nq)
      have TQ := Lib.hid (T.out.below BQ.out)
      have BWQ := Lib.hid (B0.out.trans (BQ.out.mono B0.out.size))
      have QR := Lib.hid (old_cell BQ.out (new_cell w _ [_, _, _] _ 2 rfl) (by simp))
      go_wp2
      clear BQ T B0
      generalize hW : (w.alloc (.cells #[.int .i64 p1, .int .i64 p2, .int .i64 (-1)] 46)).drewN nq = W at *
      clear hW
      have d4 := TQ.out.c4
      have d2 := TQ.out.c2
      have dr : W.cell? ⟨w.heap.size, 2, none⟩ = some (.int .i64 (-1)) := QR.out
      have zt := TQ.out.z
      have zw : w.heap.size < W.heap.size := Nat.lt_of_not_le (fun h => by unfold World.cell? at dr; rw [Array.getElem?_eq_none h] at dr; cases dr)
      have KW := Lib.hid (fun (t : Int) (w2 : World) (hb : Below W.heap.size W w2) => (show (Instr.lookup 97 (.map (some bm)) (.agg #[.int .i64 first, .int .i64 second, .int .i64 t]) true).run Try.prog w2 = .ok (.tuple #[.int .i64 ((f (first, second, t)).getD 0), .bool (f (first, second, t)).isSome]) w2 from MapAt.look ok3 Try.underlying97 zeroInt (TQ.out.mp.below hb TQ.out.mp.lt) (first, second, t)))
      go_cut [15, 16] (fun a b wx => a = .int .i64 ((f (first, second, 0)).getD 0) ∧ b = .bool (f (first, second, 0)).isSome ∧ Hid (Below W.heap.size W wx))
      case first =>
        go_region_held3 (fun W' => W'.cell? ⟨bt, 4, none⟩ = some (.map (some bm)) ∧ W'.cell? ⟨w.heap.size, 2, none⟩ = some (.int .i64 (-1))) (first | exact ⟨s4, s2⟩ | go_keep) (
          first | (go_at_call 38
                   refine (key_c first second false _).mono ?_
                   rintro e w2 ⟨rfl, hb2⟩
                   have s4 : w2.cell? ⟨bt, 4, none⟩ = some (.map (some bm)) := old_cell hb2 d4 zt
                   have s2 : w2.cell? ⟨w.heap.size, 2, none⟩ = some (.int .i64 (-1)) := old_cell hb2 dr zw
                   have hl := KW.out 0 w2 ((Below.refl _ W).drew.trans hb2)
                   have HB2 := Lib.hid ((Below.refl _ W).drew.trans hb2)
                   clear hb2))
        all_goals go_wp2_with fail
        all_goals go_meet
        all_goals exact ⟨rfl, rfl, HB2⟩
      case rest =>
        obtain ⟨rfl, rfl, BC⟩ := hcut
        have BWC := Lib.hid (BWQ.out.trans (BC.out.mono BWQ.out.size))
        have d2' := old_cell BC.out d2 zt
        have dr' := old_cell BC.out dr zw
        clear d4 d2 dr KW
        have IFF := Lib.hid (show leadsP f bound (fa = class_) (-1) first second false ↔ (f (first, second, 0)).isSome = true from ⟨fun h => by obtain ⟨r, h1, _⟩ := h.2 (fun h => by cases h.2.1); simp at h1; simp [h1], fun h => ⟨fun h2 => (by cases h2.2.1), fun _ => by obtain ⟨r, hr⟩ := Option.isSome_iff_exists.1 h; exact ⟨r, by simpa using hr, fun h => absurd rfl h⟩⟩⟩)
        cases hv : (f (first, second, 0)).isSome <;> rw [hv] at IFF <;> clear hv <;> go_wp2 <;> go_ret <;> exact ⟨_, rfl, (by rw [IFF.out] <;> simp), BWC.out⟩
  · have hr' : (rk == -1) = false := by simpa using hr
    have hr2 : (rk != -1) = true := by simpa using hr
    go_enter Try.func76, Try.ntmps76
    go_wp2_with fail
    go_quiet (fail)
    have BQ := Lib.hid ((Below.refl (w.alloc (.cells #[.int .i64 p1, .int .i64 p2, .int .i64 rk] 46)).heap.size (w.alloc (.cells #[.int .i64 p1, .int .i64 p2, .int .i64 rk] 46))).draws nq)
    have TQ := Lib.hid (T.out.below BQ.out)
    have BWQ := Lib.hid (B0.out.trans (BQ.out.mono B0.out.size))
    have QR := Lib.hid (old_cell BQ.out (new_cell w _ [_, _, _] _ 2 rfl) (by simp))
    go_wp2
    clear BQ T B0
    generalize hW : (w.alloc (.cells #[.int .i64 p1, .int .i64 p2, .int .i64 rk] 46)).drewN nq = W at *
    clear hW
    have d4 := TQ.out.c4
    have d2 := TQ.out.c2
    have dr : W.cell? ⟨w.heap.size, 2, none⟩ = some (.int .i64 rk) := QR.out
    have zt := TQ.out.z
    have zw : w.heap.size < W.heap.size := Nat.lt_of_not_le (fun h => by unfold World.cell? at dr; rw [Array.getElem?_eq_none h] at dr; cases dr)
    have KW := Lib.hid (fun (t : Int) (w2 : World) (hb : Below W.heap.size W w2) => (show (Instr.lookup 97 (.map (some bm)) (.agg #[.int .i64 first, .int .i64 second, .int .i64 t]) true).run Try.prog w2 = .ok (.tuple #[.int .i64 ((f (first, second, t)).getD 0), .bool (f (first, second, t)).isSome]) w2 from MapAt.look ok3 Try.underlying97 zeroInt (TQ.out.mp.below hb TQ.out.mp.lt) (first, second, t)))
    go_cut [15, 16] (fun a b wx => a = .int .i64 ((f (first, second, 1)).getD 0) ∧ b = .bool (f (first, second, 1)).isSome ∧ Hid (Below W.heap.size W wx))
    case first =>
      go_region_held3 (fun W' => W'.cell? ⟨bt, 4, none⟩ = some (.map (some bm)) ∧ W'.cell? ⟨w.heap.size, 2, none⟩ = some (.int .i64 rk)) (first | exact ⟨s4, s2⟩ | go_keep) (
        first | (go_at_call 38
                 refine (key_c first second true _).mono ?_
                 rintro e w2 ⟨rfl, hb2⟩
                 have s4 : w2.cell? ⟨bt, 4, none⟩ = some (.map (some bm)) := old_cell hb2 d4 zt
                 have s2 : w2.cell? ⟨w.heap.size, 2, none⟩ = some (.int .i64 rk) := old_cell hb2 dr zw
                 have hl := KW.out 1 w2 ((Below.refl _ W).drew.trans hb2)
                 have HB2 := Lib.hid ((Below.refl _ W).drew.trans hb2)
                 clear hb2))
      all_goals go_wp2_with fail
      all_goals go_meet
      all_goals exact ⟨rfl, rfl, HB2⟩
    case rest =>
      obtain ⟨rfl, rfl, BC⟩ := hcut
      have BWC := Lib.hid (BWQ.out.trans (BC.out.mono BWQ.out.size))
      have d2' := old_cell BC.out d2 zt
      have dr' := old_cell BC.out dr zw
      clear d4 d2 dr KW
      have HRK := Lib.hid hr
      clear hr
      cases hv : f (first, second, 1) with
      | none =>
        have NO := Lib.hid (show ¬ leadsP f bound (fa = class_) rk first second moves from fun h => by obtain ⟨r, h1, _⟩ := h.2 (fun h => HRK.out h.1); rw [if_neg HRK.out, hv] at h1; cases h1)
        clear hv
        go_wp2
        go_ret
        exact Tells.no NO.out BWC.out
      | some r =>
        have YES := Lib.hid (show leadsP f bound (fa = class_) rk first second moves ↔ if moves = true then r < rk else r ≤ rk from ⟨fun h => by obtain ⟨r', h1, h2⟩ := h.2 (fun h => HRK.out h.1); rw [if_neg HRK.out, hv] at h1; cases h1; exact h2 HRK.out, fun h => ⟨fun h2 => absurd h2.1 HRK.out, fun _ => ⟨r, by rw [if_neg HRK.out]; exact hv, fun _ => h⟩⟩⟩)
        clear hv
        cases moves with
        | true =>
          go_wp2
          go_ret
          exact ⟨_, rfl, by rw [YES.out]; simp, BWC.out⟩
        | false =>
          go_wp2
          go_ret
          exact ⟨_, rfl, by rw [YES.out]; simp, BWC.out⟩
end Go.Proofs.Ytkbmenpggiojeaa
