/-
  The checker's twin: where a move leads.
  The checker's twin: all moves from a pair.
  The checker's lassos: a fault in a word; equal lists; copies of lists.
  The law's look at the size of an automaton; the checker's look at a supervisor, where this is the empty automaton.
  The reference's small functions on automata: has, Step, index, Empty.
  word.Project and what it calls; word.Equal; occurs.
  The checker's lassos: numbers deleted from a list of the call's own; whether two words are alike.
-/
import Derived.Test.YtccfcaejlohahaaBas11
import Derived.Test.YtccfcaejlohahaaBas05
import Derived.Deep.DeepCutAuto
import Derived.Test.YtccfcaejlohahaaBas06
import Derived.StillTailTactics
import Derived.Test.YtccfcaejlohahaaBas01
import Derived.Lib.SliceRun
import Derived.Test.YtccfcaejlohahaaBas09
import Derived.OwnWalk
import Derived.Test.YtccfcaejlohahaaBas04
set_option linter.unusedSimpArgs false
set_option linter.unusedVariables false
namespace Go.Proofs.Ytccfcaejlohahaa
open Go.RowKit
set_option maxRecDepth 100000
abbrev Ranks := Int × Int × Int → Option Int
structure TwAt (w : World) (bt bm : Nat) (AE : Option Addr) (cE : Nat) (evs : List Ev) (class_ bound : Int) (AO : Option Addr) (cO n : Nat) (ed : List Ed) (f : Ranks) : Prop where
 c0 : w.cell? ⟨bt,0,none⟩ = some (.slice AE evs.length cE)
 c1 : w.cell? ⟨bt,1,none⟩ = some (.int .i64 class_)
 c2 : w.cell? ⟨bt,2,none⟩ = some (.int .i64 bound)
 c3 : w.cell? ⟨bt,3,none⟩ = some (.slice AO n cO)
 c4 : w.cell? ⟨bt,4,none⟩ = some (.map (some bm))
 ev : EvsAt w AE evs
 rows : RowsAt EdE 3 w AO (outs ed n)
 mp : MapAt key3 w bm f
 z : bt < w.heap.size
theorem TwAt.below {w w' : World} {bt bm : Nat} {AE : Option Addr} {cE : Nat} {evs : List Ev} {class_ bound : Int} {AO : Option Addr} {cO n : Nat} {ed : List Ed} {f : Ranks} (h : TwAt w bt bm AE cE evs class_ bound AO cO n ed f) (hb : Below w.heap.size w w') : TwAt w' bt bm AE cE evs class_ bound AO cO n ed f :=
 ⟨old_cell hb h.c0 h.z,old_cell hb h.c1 h.z,old_cell hb h.c2 h.z,old_cell hb h.c3 h.z,old_cell hb h.c4 h.z,h.ev.below EvE.stays hb,h.rows.below (RowE.stays EdE.stays) hb,h.mp.below hb h.mp.lt,Nat.lt_of_lt_of_le h.z hb.size⟩

def leadsP (f : Ranks) (bound : Int) (isF : Prop) (rk first second : Int) (moves : Bool) : Prop :=
 (rk = -1 ∧ moves = true ∧ isF → ∃ r,f (first,second,1) = some r ∧ r < bound) ∧
 (¬ (rk = -1 ∧ moves = true ∧ isF) → ∃ r,f (first,second,if rk = -1 then 0 else 1) = some r ∧ (rk ≠ -1 → if moves = true then r < rk else r ≤ rk))

set_option maxRecDepth 100000 in
set_option maxHeartbeats 1000000 in
theorem leads_c (bt bm : Nat) (AE : Option Addr) (cE : Nat) (evs : List Ev) (class_ bound : Int) (AO : Option Addr) (cO n : Nat) (ed : List Ed) (f : Ranks) (p : Pa) (first second : Int) (ev : Nat) (x : Ev) (moves : Bool) (w : World)
 (h : TwAt w bt bm AE cE evs class_ bound AO cO n ed f) (hev : evs[ev]? = some x) (lev : evs.length ≤ 140737488355328) :
 Calls Try.prog 72 #[.pointer (some ⟨bt,0,none⟩),.agg #[.int .i64 p.fst,.int .i64 p.snd,.int .i64 p.rk],.int .i64 first,.int .i64 second,.int .i64 ev,.bool moves] w (Tells (leadsP f bound (x.fault = class_) p.rk first second moves) w) := by
 obtain ⟨p1,p2,rk⟩ := p
 obtain ⟨b,off,hA,hb,_,e4⟩ := EvsAt.get h.ev hev
 subst hA
 have hel : ev < evs.length := (List.getElem?_eq_some_iff.1 hev).1
 have B0 := Lib.hid (Below.new w (.cells #[.int .i64 p1,.int .i64 p2,.int .i64 rk] 77))
 have T := Lib.hid (h.below B0.out)
 have c0 := h.c0
 have c1 := h.c1
 have z := h.z
 clear h hev
 generalize x.fault = fa at e4
 by_cases hr : rk = -1
 · subst hr
   cases moves with
   | true =>
     by_cases hf : fa = class_
     · subst hf
       go_enter Try.func72,Try.ntmps72
       go_wp2_with fail
       go_quiet (fail)
       have BQ := Lib.hid ((Below.refl (w.alloc (.cells #[.int .i64 p1,.int .i64 p2,.int .i64 (-1)] 77)).heap.size (w.alloc (.cells #[.int .i64 p1,.int .i64 p2,.int .i64 (-1)] 77))).draws nq)
       have TQ := Lib.hid (T.out.below BQ.out)
       have BWQ := Lib.hid (B0.out.trans (BQ.out.mono B0.out.size))
       have QR := Lib.hid (old_cell BQ.out (new_cell w _ [_,_,_] _ 2 rfl) (by simp))
       go_wp2
       clear BQ T B0
       generalize hW : (w.alloc (.cells #[.int .i64 p1,.int .i64 p2,.int .i64 (-1)] 77)).drewN nq = W at *
       clear hW
       have d4 := TQ.out.c4
       have d2 := TQ.out.c2
       have dr : W.cell? ⟨w.heap.size,2,none⟩ = some (.int .i64 (-1)) := QR.out
       have zt := TQ.out.z
       have zw : w.heap.size < W.heap.size := Nat.lt_of_not_le (fun h => by unfold World.cell? at dr; rw [Array.getElem?_eq_none h] at dr; cases dr)
       have KW := Lib.hid (fun (t : Int) (w2 : World) (hb : Below W.heap.size W w2) => (show (Instr.lookup 108 (.map (some bm)) (.agg #[.int .i64 first,.int .i64 second,.int .i64 t]) true).run Try.prog w2 = .ok (.tuple #[.int .i64 ((f (first,second,t)).getD 0),.bool (f (first,second,t)).isSome]) w2 from MapAt.look ok3 Try.underlying108 zeroInt (TQ.out.mp.below hb TQ.out.mp.lt) (first,second,t)))
       go_cut [13,14] (fun a b wx => a = .int .i64 ((f (first,second,1)).getD 0) ∧ b = .bool (f (first,second,1)).isSome ∧ Hid (Below W.heap.size W wx))
       case first =>
        go_region_held3 (fun W' => W'.cell? ⟨bt,4,none⟩ = some (.map (some bm)) ∧ W'.cell? ⟨w.heap.size,2,none⟩ = some (.int .i64 (-1))) (first | exact ⟨s4,s2⟩ | go_keep) (
         first | (go_at_call 42
                  refine (key_c first second true _).mono ?_
                  rintro e w2 ⟨rfl,hb2⟩
                  have s4 : w2.cell? ⟨bt,4,none⟩ = some (.map (some bm)) := old_cell hb2 d4 zt
                  have s2 : w2.cell? ⟨w.heap.size,2,none⟩ = some (.int .i64 (-1)) := old_cell hb2 dr zw
                  have hl := KW.out 1 w2 ((Below.refl _ W).drew.trans hb2)
                  have HB2 := Lib.hid ((Below.refl _ W).drew.trans hb2)
                  clear hb2))
        all_goals go_wp2_with fail
        all_goals go_meet
        all_goals exact ⟨rfl,rfl,HB2⟩
       case rest =>
        obtain ⟨rfl,rfl,BC⟩ := hcut
        have BWC := Lib.hid (BWQ.out.trans (BC.out.mono BWQ.out.size))
        have d2' := old_cell BC.out d2 zt
        have dr' := old_cell BC.out dr zw
        clear d4 d2 dr KW
        cases hv : f (first,second,1) with
        | none =>
          have NO := Lib.hid (show ¬ leadsP f bound (fa = fa) (-1) first second true from fun h => by obtain ⟨r,h1,_⟩ := h.1 ⟨rfl,rfl,rfl⟩; rw [hv] at h1; cases h1)
          clear hv
          go_wp2
          go_ret
          exact Tells.no NO.out BWC.out
        | some r =>
          have YES := Lib.hid (show leadsP f bound (fa = fa) (-1) first second true ↔ r < bound from ⟨fun h => by obtain ⟨r',h1,h2⟩ := h.1 ⟨rfl,rfl,rfl⟩; rw [hv] at h1; cases h1; exact h2,fun h => ⟨fun _ => ⟨r,hv,h⟩,fun h2 => absurd ⟨rfl,rfl,rfl⟩ h2⟩⟩)
          clear hv
          go_wp2
          go_ret
          exact ⟨_,rfl,by rw [YES.out]; simp,BWC.out⟩
     · have hf' : (fa == class_) = false := by simpa using hf
       have HF := Lib.hid hf
       clear hf
       go_enter Try.func72,Try.ntmps72
       go_wp2_with fail
       go_quiet (fail)
       have BQ := Lib.hid ((Below.refl (w.alloc (.cells #[.int .i64 p1,.int .i64 p2,.int .i64 (-1)] 77)).heap.size (w.alloc (.cells #[.int .i64 p1,.int .i64 p2,.int .i64 (-1)] 77))).draws nq)
       have TQ := Lib.hid (T.out.below BQ.out)
       have BWQ := Lib.hid (B0.out.trans (BQ.out.mono B0.out.size))
       have QR := Lib.hid (old_cell BQ.out (new_cell w _ [_,_,_] _ 2 rfl) (by simp))
       go_wp2
       clear BQ T B0
       generalize hW : (w.alloc (.cells #[.int .i64 p1,.int .i64 p2,.int .i64 (-1)] 77)).drewN nq = W at *
       clear hW
       have d4 := TQ.out.c4
       have d2 := TQ.out.c2
       have dr : W.cell? ⟨w.heap.size,2,none⟩ = some (.int .i64 (-1)) := QR.out
       have zt := TQ.out.z
       have zw : w.heap.size < W.heap.size := Nat.lt_of_not_le (fun h => by unfold World.cell? at dr; rw [Array.getElem?_eq_none h] at dr; cases dr)
       have KW := Lib.hid (fun (t : Int) (w2 : World) (hb : Below W.heap.size W w2) => (show (Instr.lookup 108 (.map (some bm)) (.agg #[.int .i64 first,.int .i64 second,.int .i64 t]) true).run Try.prog w2 = .ok (.tuple #[.int .i64 ((f (first,second,t)).getD 0),.bool (f (first,second,t)).isSome]) w2 from MapAt.look ok3 Try.underlying108 zeroInt (TQ.out.mp.below hb TQ.out.mp.lt) (first,second,t)))
       go_cut [15,16] (fun a b wx => a = .int .i64 ((f (first,second,0)).getD 0) ∧ b = .bool (f (first,second,0)).isSome ∧ Hid (Below W.heap.size W wx))
       case first =>
        go_region_held3 (fun W' => W'.cell? ⟨bt,4,none⟩ = some (.map (some bm)) ∧ W'.cell? ⟨w.heap.size,2,none⟩ = some (.int .i64 (-1))) (first | exact ⟨s4,s2⟩ | go_keep) (
         first | (go_at_call 42
                  refine (key_c first second false _).mono ?_
                  rintro e w2 ⟨rfl,hb2⟩
                  have s4 : w2.cell? ⟨bt,4,none⟩ = some (.map (some bm)) := old_cell hb2 d4 zt
                  have s2 : w2.cell? ⟨w.heap.size,2,none⟩ = some (.int .i64 (-1)) := old_cell hb2 dr zw
                  have hl := KW.out 0 w2 ((Below.refl _ W).drew.trans hb2)
                  have HB2 := Lib.hid ((Below.refl _ W).drew.trans hb2)
                  clear hb2))
        all_goals go_wp2_with fail
        all_goals go_meet
        all_goals exact ⟨rfl,rfl,HB2⟩
       case rest =>
        obtain ⟨rfl,rfl,BC⟩ := hcut
        have BWC := Lib.hid (BWQ.out.trans (BC.out.mono BWQ.out.size))
        have d2' := old_cell BC.out d2 zt
        have dr' := old_cell BC.out dr zw
        clear d4 d2 dr KW
        have IFF := Lib.hid (show leadsP f bound (fa = class_) (-1) first second true ↔ (f (first,second,0)).isSome = true from ⟨fun h => by obtain ⟨r,h1,_⟩ := h.2 (fun h => HF.out h.2.2); simp at h1; simp [h1],fun h => ⟨fun h2 => absurd h2.2.2 HF.out,fun _ => by obtain ⟨r,hr⟩ := Option.isSome_iff_exists.1 h; exact ⟨r,by simpa using hr,fun h => absurd rfl h⟩⟩⟩)
        cases hv : (f (first,second,0)).isSome <;> rw [hv] at IFF <;> clear hv <;> go_wp2 <;> go_ret <;> exact ⟨_,rfl,(by rw [IFF.out] <;> simp),BWC.out⟩
   | false =>
     go_enter Try.func72,Try.ntmps72
     go_wp2_with fail
     go_quiet (fail)
     have BQ := Lib.hid ((Below.refl (w.alloc (.cells #[.int .i64 p1,.int .i64 p2,.int .i64 (-1)] 77)).heap.size (w.alloc (.cells #[.int .i64 p1,.int .i64 p2,.int .i64 (-1)] 77))).draws nq)
     have TQ := Lib.hid (T.out.below BQ.out)
     have BWQ := Lib.hid (B0.out.trans (BQ.out.mono B0.out.size))
     have QR := Lib.hid (old_cell BQ.out (new_cell w _ [_,_,_] _ 2 rfl) (by simp))
     go_wp2
     clear BQ T B0
     generalize hW : (w.alloc (.cells #[.int .i64 p1,.int .i64 p2,.int .i64 (-1)] 77)).drewN nq = W at *
     clear hW
     have d4 := TQ.out.c4
     have d2 := TQ.out.c2
     have dr : W.cell? ⟨w.heap.size,2,none⟩ = some (.int .i64 (-1)) := QR.out
     have zt := TQ.out.z
     have zw : w.heap.size < W.heap.size := Nat.lt_of_not_le (fun h => by unfold World.cell? at dr; rw [Array.getElem?_eq_none h] at dr; cases dr)
     have KW := Lib.hid (fun (t : Int) (w2 : World) (hb : Below W.heap.size W w2) => (show (Instr.lookup 108 (.map (some bm)) (.agg #[.int .i64 first,.int .i64 second,.int .i64 t]) true).run Try.prog w2 = .ok (.tuple #[.int .i64 ((f (first,second,t)).getD 0),.bool (f (first,second,t)).isSome]) w2 from MapAt.look ok3 Try.underlying108 zeroInt (TQ.out.mp.below hb TQ.out.mp.lt) (first,second,t)))
     go_cut [15,16] (fun a b wx => a = .int .i64 ((f (first,second,0)).getD 0) ∧ b = .bool (f (first,second,0)).isSome ∧ Hid (Below W.heap.size W wx))
     case first =>
      go_region_held3 (fun W' => W'.cell? ⟨bt,4,none⟩ = some (.map (some bm)) ∧ W'.cell? ⟨w.heap.size,2,none⟩ = some (.int .i64 (-1))) (first | exact ⟨s4,s2⟩ | go_keep) (
       first | (go_at_call 42
                refine (key_c first second false _).mono ?_
                rintro e w2 ⟨rfl,hb2⟩
                have s4 : w2.cell? ⟨bt,4,none⟩ = some (.map (some bm)) := old_cell hb2 d4 zt
                have s2 : w2.cell? ⟨w.heap.size,2,none⟩ = some (.int .i64 (-1)) := old_cell hb2 dr zw
                have hl := KW.out 0 w2 ((Below.refl _ W).drew.trans hb2)
                have HB2 := Lib.hid ((Below.refl _ W).drew.trans hb2)
                clear hb2))
      all_goals go_wp2_with fail
      all_goals go_meet
      all_goals exact ⟨rfl,rfl,HB2⟩
     case rest =>
      obtain ⟨rfl,rfl,BC⟩ := hcut
      have BWC := Lib.hid (BWQ.out.trans (BC.out.mono BWQ.out.size))
      have d2' := old_cell BC.out d2 zt
      have dr' := old_cell BC.out dr zw
      clear d4 d2 dr KW
      have IFF := Lib.hid (show leadsP f bound (fa = class_) (-1) first second false ↔ (f (first,second,0)).isSome = true from ⟨fun h => by obtain ⟨r,h1,_⟩ := h.2 (fun h => by cases h.2.1); simp at h1; simp [h1],fun h => ⟨fun h2 => (by cases h2.2.1),fun _ => by obtain ⟨r,hr⟩ := Option.isSome_iff_exists.1 h; exact ⟨r,by simpa using hr,fun h => absurd rfl h⟩⟩⟩)
      cases hv : (f (first,second,0)).isSome <;> rw [hv] at IFF <;> clear hv <;> go_wp2 <;> go_ret <;> exact ⟨_,rfl,(by rw [IFF.out] <;> simp),BWC.out⟩
 · have hr' : (rk == -1) = false := by simpa using hr
   have hr2 : (rk != -1) = true := by simpa using hr
   go_enter Try.func72,Try.ntmps72
   go_wp2_with fail
   go_quiet (fail)
   have BQ := Lib.hid ((Below.refl (w.alloc (.cells #[.int .i64 p1,.int .i64 p2,.int .i64 rk] 77)).heap.size (w.alloc (.cells #[.int .i64 p1,.int .i64 p2,.int .i64 rk] 77))).draws nq)
   have TQ := Lib.hid (T.out.below BQ.out)
   have BWQ := Lib.hid (B0.out.trans (BQ.out.mono B0.out.size))
   have QR := Lib.hid (old_cell BQ.out (new_cell w _ [_,_,_] _ 2 rfl) (by simp))
   go_wp2
   clear BQ T B0
   generalize hW : (w.alloc (.cells #[.int .i64 p1,.int .i64 p2,.int .i64 rk] 77)).drewN nq = W at *
   clear hW
   have d4 := TQ.out.c4
   have d2 := TQ.out.c2
   have dr : W.cell? ⟨w.heap.size,2,none⟩ = some (.int .i64 rk) := QR.out
   have zt := TQ.out.z
   have zw : w.heap.size < W.heap.size := Nat.lt_of_not_le (fun h => by unfold World.cell? at dr; rw [Array.getElem?_eq_none h] at dr; cases dr)
   have KW := Lib.hid (fun (t : Int) (w2 : World) (hb : Below W.heap.size W w2) => (show (Instr.lookup 108 (.map (some bm)) (.agg #[.int .i64 first,.int .i64 second,.int .i64 t]) true).run Try.prog w2 = .ok (.tuple #[.int .i64 ((f (first,second,t)).getD 0),.bool (f (first,second,t)).isSome]) w2 from MapAt.look ok3 Try.underlying108 zeroInt (TQ.out.mp.below hb TQ.out.mp.lt) (first,second,t)))
   go_cut [15,16] (fun a b wx => a = .int .i64 ((f (first,second,1)).getD 0) ∧ b = .bool (f (first,second,1)).isSome ∧ Hid (Below W.heap.size W wx))
   case first =>
    go_region_held3 (fun W' => W'.cell? ⟨bt,4,none⟩ = some (.map (some bm)) ∧ W'.cell? ⟨w.heap.size,2,none⟩ = some (.int .i64 rk)) (first | exact ⟨s4,s2⟩ | go_keep) (
     first | (go_at_call 42
              refine (key_c first second true _).mono ?_
              rintro e w2 ⟨rfl,hb2⟩
              have s4 : w2.cell? ⟨bt,4,none⟩ = some (.map (some bm)) := old_cell hb2 d4 zt
              have s2 : w2.cell? ⟨w.heap.size,2,none⟩ = some (.int .i64 rk) := old_cell hb2 dr zw
              have hl := KW.out 1 w2 ((Below.refl _ W).drew.trans hb2)
              have HB2 := Lib.hid ((Below.refl _ W).drew.trans hb2)
              clear hb2))
    all_goals go_wp2_with fail
    all_goals go_meet
    all_goals exact ⟨rfl,rfl,HB2⟩
   case rest =>
    obtain ⟨rfl,rfl,BC⟩ := hcut
    have BWC := Lib.hid (BWQ.out.trans (BC.out.mono BWQ.out.size))
    have d2' := old_cell BC.out d2 zt
    have dr' := old_cell BC.out dr zw
    clear d4 d2 dr KW
    have HRK := Lib.hid hr
    clear hr
    cases hv : f (first,second,1) with
    | none =>
      have NO := Lib.hid (show ¬ leadsP f bound (fa = class_) rk first second moves from fun h => by obtain ⟨r,h1,_⟩ := h.2 (fun h => HRK.out h.1); rw [if_neg HRK.out,hv] at h1; cases h1)
      clear hv
      go_wp2
      go_ret
      exact Tells.no NO.out BWC.out
    | some r =>
      have YES := Lib.hid (show leadsP f bound (fa = class_) rk first second moves ↔ if moves = true then r < rk else r ≤ rk from ⟨fun h => by obtain ⟨r',h1,h2⟩ := h.2 (fun h => HRK.out h.1); rw [if_neg HRK.out,hv] at h1; cases h1; exact h2 HRK.out,fun h => ⟨fun h2 => absurd h2.1 HRK.out,fun _ => ⟨r,by rw [if_neg HRK.out]; exact hv,fun _ => h⟩⟩⟩)
      clear hv
      cases moves with
      | true =>
        go_wp2
        go_ret
        exact ⟨_,rfl,by rw [YES.out]; simp,BWC.out⟩
      | false =>
        go_wp2
        go_ret
        exact ⟨_,rfl,by rw [YES.out]; simp,BWC.out⟩
def evAt (evs : List Ev) (e : Int) : Ev := match evs[e.toNat]? with
 | some z => z
 | none => ⟨.empty,false,false,false,0⟩
theorem evAt_get {evs : List Ev} {t : Nat} {z : Ev} (h : evs[t]? = some z) : evAt evs (t : Int) = z := by simp [evAt,h]

def move1 (f : Ranks) (bound class_ : Int) (evs : List Ev) (p : Pa) (x : Ed) : Prop := (evAt evs x.ev).obs = false → leadsP f bound ((evAt evs x.ev).fault = class_) p.rk x.dst p.snd true
def move2 (f : Ranks) (bound class_ : Int) (evs : List Ev) (p : Pa) (y : Ed) : Prop := (evAt evs y.ev).obs = false → (evAt evs y.ev).fault ≠ class_ → leadsP f bound ((evAt evs y.ev).fault = class_) p.rk p.fst y.dst false
def move3 (f : Ranks) (bound class_ : Int) (evs : List Ev) (p : Pa) (x y : Ed) : Prop := x.ev = y.ev → (evAt evs x.ev).obs = true → leadsP f bound ((evAt evs x.ev).fault = class_) p.rk x.dst y.dst true
structure PairOk (f : Ranks) (bound class_ : Int) (evs : List Ev) (ed : List Ed) (p : Pa) : Prop where
 m1 : ∀ x,x ∈ outOf ed p.fst.toNat → move1 f bound class_ evs p x
 m2 : ∀ y,y ∈ outOf ed p.snd.toNat → move2 f bound class_ evs p y
 m3 : ∀ x,x ∈ outOf ed p.fst.toNat → ∀ y,y ∈ outOf ed p.snd.toNat → move3 f bound class_ evs p x y

theorem all_get {α : Type} {P : α → Prop} {l : List α} (h : ∀ j y,j < l.length → l[j]? = some y → P y) : ∀ y,y ∈ l → P y := fun y hy => by
 obtain ⟨j,hj,rfl⟩ := List.mem_iff_getElem.1 hy
 exact h j _ hj (List.getElem?_eq_getElem hj)
theorem all_step {α : Type} {P : α → Prop} {l : List α} {k : Nat} {x : α} (h : ∀ j y,j < k → l[j]? = some y → P y) (hx : l[k]? = some x) (hp : P x) : ∀ j y,j < k + 1 → l[j]? = some y → P y := fun j y hj hy => by
 by_cases e : j = k
 · subst e; rw [hx] at hy; cases hy; exact hp
 · exact h j y (by omega) hy
structure PaAt (w : World) (b : Nat) (p : Pa) : Prop where
 c0 : w.cell? ⟨b,0,none⟩ = some (.int .i64 p.fst)
 c1 : w.cell? ⟨b,1,none⟩ = some (.int .i64 p.snd)
 c2 : w.cell? ⟨b,2,none⟩ = some (.int .i64 p.rk)
 z : b < w.heap.size
theorem PaAt.below {w w' : World} {b : Nat} {p : Pa} (h : PaAt w b p) (hb : Below w.heap.size w w') : PaAt w' b p :=
 ⟨old_cell hb h.c0 h.z,old_cell hb h.c1 h.z,old_cell hb h.c2 h.z,Nat.lt_of_lt_of_le h.z hb.size⟩

set_option maxRecDepth 100000 in
set_option maxHeartbeats 4000000 in
theorem pair_c (bt bm : Nat) (AE : Option Addr) (cE : Nat) (evs : List Ev) (class_ bound : Int) (bo cO n : Nat) (ed : List Ed) (f : Ranks) (i k : Nat) (rk : Int) (w : World)
 (h : TwAt w bt bm AE cE evs class_ bound (some ⟨bo,0,none⟩) cO n ed f) (hi : i < n) (hk : k < n) (hn : n ≤ 4096) (lev : evs.length ≤ 140737488355328) (hed : ∀ x,x ∈ ed → 0 ≤ x.ev ∧ x.ev < evs.length) :
 Calls Try.prog 43 #[.pointer (some ⟨bt,0,none⟩),.agg #[.int .i64 i,.int .i64 k,.int .i64 rk]] w (Tells (PairOk f bound class_ evs ed ⟨i,k,rk⟩) w) := by
 have T0 := Lib.hid (h.below (Below.new w (.cells #[.int .i64 (i : Int),.int .i64 (k : Int),.int .i64 rk] 77)))
 have P0 := Lib.hid (PaAt.mk (b := w.heap.size) (p := ⟨i,k,rk⟩) (new_cell w 77 [.int .i64 (i : Int),.int .i64 (k : Int),.int .i64 rk] _ 0 rfl) (new_cell w _ [_,_,_] _ 1 rfl) (new_cell w _ [_,_,_] _ 2 rfl) (by simp))
 have B0 := Lib.hid (Below.new w (.cells #[.int .i64 (i : Int),.int .i64 (k : Int),.int .i64 rk] 77))
 have HEV := Lib.hid (show ∀ (j : Nat) (x : Ed),x ∈ outOf ed j → 0 ≤ x.ev ∧ x.ev < evs.length from fun j x hx => hed x (List.mem_filter.1 hx).1)
 clear h hed
 go_enter Try.func43,Try.ntmps43
 go_wp2_with fail
 generalize hW : w.alloc (.cells #[.int .i64 (i : Int),.int .i64 (k : Int),.int .i64 rk] 77) = W0 at *
 clear hW
 have a0 := T0.out.c0
 have a3 := T0.out.c3
 have zt := T0.out.z
 have pc0 := P0.out.c0
 have pc1 := P0.out.c1
 have pc2 := P0.out.c2
 have zp := P0.out.z
 obtain ⟨A1,c1,hbo,hrow1,lE1,hE1⟩ := RowsAt.row T0.out.rows hi
 have HE1 := Lib.hid hE1
 clear hE1
 go_wp2_with fail
 go_quiet (fail)
 have BQ1 := Lib.hid ((Below.refl W0.heap.size W0).draws nq)
 go_wp2_with fail
 generalize hW : W0.drewN nq = W1 at *
 clear hW a0 a3 zt pc0 pc1 pc2 zp hbo hrow1
 have T1 := Lib.hid (T0.out.below BQ1.out)
 have P1 := Lib.hid (P0.out.below BQ1.out)
 have BW1 := Lib.hid (B0.out.trans (BQ1.out.mono B0.out.size))
 have HE1' := Lib.hid (HE1.out.below EdE.stays BQ1.out)
 clear HE1 BQ1 T0 P0 B0
 go_loopw [22] (fun a wr => ∃ m : Nat,m ≤ (outOf ed i).length ∧ a = .int .i64 m ∧ Hid (Below W1.heap.size W1 wr) ∧ Hid (∀ (j : Nat) (y : Ed),j < m → (outOf ed i)[j]? = some y → move1 f bound class_ evs ⟨i,k,rk⟩ y)) (fun a _ => (outOf ed i).length - (intOf a).toNat)
 case atStart => exact ⟨0,by omega,rfl,Below.refl _ _,fun j y h => absurd h (by omega)⟩
 case round =>
  obtain ⟨m,hm,rfl,BR,HM⟩ := hrel
  have TR := Lib.hid (T1.out.below BR.out)
  have PR := Lib.hid (P1.out.below BR.out)
  have BWR := Lib.hid (BW1.out.trans (BR.out.mono BW1.out.size))
  by_cases hlt : m < (outOf ed i).length
  · obtain ⟨b,off,x,hA,hb,hx,e0,e1,e2⟩ := EdsAt.at (HE1'.out.below EdE.stays BR.out) hlt
    have hxe := HEV.out i x (List.mem_of_getElem? hx)
    obtain ⟨src,ev,dst⟩ := x
    obtain ⟨t,rfl⟩ := Int.eq_ofNat_of_zero_le hxe.1
    have hte : t < evs.length := by have := hxe.2; simp only at this; omega
    clear hxe
    subst hA
    dsimp only at e0 e1 e2
    obtain ⟨z,hz⟩ : ∃ z,evs[t]? = some z := ⟨_,List.getElem?_eq_getElem hte⟩
    have HZ := Lib.hid hz
    have HX := Lib.hid hx
    clear hz hx
    go_wp2
    have BN := Lib.hid (Below.new wr (.cells #[.int .i64 src,.int .i64 (t : Int),.int .i64 dst] 68))
    have x1 := new_cell wr 68 [.int .i64 src,.int .i64 (t : Int),.int .i64 dst] _ 1 rfl
    have x2 := new_cell wr 68 [.int .i64 src,.int .i64 (t : Int),.int .i64 dst] _ 2 rfl
    have zx : wr.heap.size < (wr.alloc (.cells #[.int .i64 src,.int .i64 (t : Int),.int .i64 dst] 68)).heap.size := by simp
    clear e0 e1 e2
    generalize hW : wr.alloc (.cells #[.int .i64 src,.int .i64 (t : Int),.int .i64 dst] 68) = W at *
    clear hW
    have TW := Lib.hid (TR.out.below BN.out)
    have PW := Lib.hid (PR.out.below BN.out)
    have a0 := TW.out.c0
    have a3 := TW.out.c3
    have zt := TW.out.z
    have pc0 := PW.out.c0
    have pc1 := PW.out.c1
    have pc2 := PW.out.c2
    have zp := PW.out.z
    obtain ⟨be,oe,hAE,hbe,g2,g4⟩ := EvsAt.get TW.out.ev HZ.out
    subst hAE
    go_cut [47] (fun a wx => ∃ bb : Bool,a = .bool bb ∧ Hid (bb = false ↔ move1 f bound class_ evs ⟨i,k,rk⟩ ⟨src,t,dst⟩) ∧ Hid (Below W.heap.size W wx))
    case first =>
     cases hobs : z.obs with
     | true =>
       rw [hobs] at g2
       have YES := Lib.hid (show move1 f bound class_ evs ⟨i,k,rk⟩ ⟨src,t,dst⟩ from fun h => by rw [evAt_get HZ.out,hobs] at h; cases h)
       clear hobs
       go_quiet (fail)
       go_wp2_with fail
       go_meet
       exact ⟨false,rfl,⟨fun _ => YES.out,fun _ => rfl⟩,(Below.refl _ _).draws _⟩
     | false =>
       rw [hobs] at g2
       have HOB := Lib.hid hobs
       clear hobs
       go_still_tail 19,(by kernel_rfl)
       change wpList _ _ _ _ _ W.drew
       go_wp2_with fail
       refine (leads_c bt bm _ cE evs class_ bound (some ⟨bo,0,none⟩) cO n ed f ⟨i,k,rk⟩ dst k t z true _ (TW.out.below (Below.refl _ W).drew) HZ.out lev).mono ?_
       intro e w2 hs
       rcases hs.no1 with ⟨rfl,S,hb2⟩ | ⟨rfl,S,hb2⟩
       · have NO := Lib.hid (show ¬ move1 f bound class_ evs ⟨i,k,rk⟩ ⟨src,t,dst⟩ from fun h => S.out (by have := h (by rw [evAt_get HZ.out]; exact HOB.out); rw [evAt_get HZ.out] at this; exact this))
         have HB2 := Lib.hid ((Below.refl _ W).drew.trans hb2)
         clear hb2
         go_wp2_with fail
         go_meet
         exact ⟨true,rfl,⟨fun h => (by cases h),fun h => absurd h NO.out⟩,HB2⟩
       · have YES := Lib.hid (show move1 f bound class_ evs ⟨i,k,rk⟩ ⟨src,t,dst⟩ from fun _  => by rw [evAt_get HZ.out]; exact S.out)
         have HB2 := Lib.hid ((Below.refl _ W).drew.trans hb2)
         clear hb2
         go_wp2_with fail
         go_meet
         exact ⟨false,rfl,⟨fun _ => YES.out,fun _ => rfl⟩,HB2⟩
    case rest =>
     obtain ⟨bb,rfl,HB,BC⟩ := hcut
     have BRC := Lib.hid (BR.out.trans ((BN.out.trans (BC.out.mono BN.out.size)).mono BR.out.size))
     clear a0 a3 zt pc0 pc1 pc2 zp x1 x2 g2 g4
     cases bb with
     | true =>
       have NO := Lib.hid (show ¬ move1 f bound class_ evs ⟨i,k,rk⟩ ⟨src,t,dst⟩ from fun h => by have := HB.out.2 h; cases this)
       go_wp2
       go_ret
       exact Tells.no (fun h => NO.out (h.m1 _ (List.mem_of_getElem? HX.out))) (BW1.out.trans (BRC.out.mono BW1.out.size))
     | false =>
       go_wp2
       go_roundw
       case rel => exact ⟨m + 1,by omega,by go_num,BRC,all_step HM.out HX.out (HB.out.1 rfl)⟩
       case measure => simp [intOf]; omega
  have M1 := Lib.hid (all_get (P := move1 f bound class_ evs ⟨i,k,rk⟩) (fun j y hj hy => HM.out j y (by omega) hy))
  obtain ⟨V1,rfl⟩ : ∃ V : World,V = wr := ⟨_,rfl⟩
  have a0 := TR.out.c0
  have a3 := TR.out.c3
  have zt := TR.out.z
  have pc0 := PR.out.c0
  have pc1 := PR.out.c1
  have pc2 := PR.out.c2
  have zp := PR.out.z
  obtain ⟨A2,c2,hbo,hrow,lE2,hE⟩ := RowsAt.row TR.out.rows hk
  have HE2 := Lib.hid hE
  clear hE
  go_wp2_with fail
  go_quiet (fail)
  have BQ := Lib.hid ((Below.refl V1.heap.size V1).draws nq)
  go_wp2_with fail
  generalize hW : V1.drewN nq = W2 at *
  clear hW a0 a3 zt pc0 pc1 pc2 zp hbo hrow
  have T2 := Lib.hid (TR.out.below BQ.out)
  have P2 := Lib.hid (PR.out.below BQ.out)
  have BW2 := Lib.hid (BWR.out.trans (BQ.out.mono BWR.out.size))
  have HE2' := Lib.hid (HE2.out.below EdE.stays BQ.out)
  clear HE2 BQ TR PR BWR BR HM
  go_loopw [58] (fun a wr => ∃ m : Nat,m ≤ (outOf ed k).length ∧ a = .int .i64 m ∧ Hid (Below W2.heap.size W2 wr) ∧ Hid (∀ (j : Nat) (y : Ed),j < m → (outOf ed k)[j]? = some y → move2 f bound class_ evs ⟨i,k,rk⟩ y)) (fun a _ => (outOf ed k).length - (intOf a).toNat)
  case atStart => exact ⟨0,by omega,rfl,Below.refl _ _,fun j y h => absurd h (by omega)⟩
  case round =>
   obtain ⟨m,hm,rfl,BR,HM⟩ := hrel
   have TR := Lib.hid (T2.out.below BR.out)
   have PR := Lib.hid (P2.out.below BR.out)
   have BWR := Lib.hid (BW2.out.trans (BR.out.mono BW2.out.size))
   by_cases hlt : m < (outOf ed k).length
   · obtain ⟨b,off,x,hA,hb,hx,e0,e1,e2⟩ := EdsAt.at (HE2'.out.below EdE.stays BR.out) hlt
     have hxe := HEV.out k x (List.mem_of_getElem? hx)
     obtain ⟨src,ev,dst⟩ := x
     obtain ⟨t,rfl⟩ := Int.eq_ofNat_of_zero_le hxe.1
     have hte : t < evs.length := by have := hxe.2; simp only at this; omega
     clear hxe
     subst hA
     dsimp only at e0 e1 e2
     obtain ⟨z,hz⟩ : ∃ z,evs[t]? = some z := ⟨_,List.getElem?_eq_getElem hte⟩
     have HZ := Lib.hid hz
     have HX := Lib.hid hx
     clear hz hx
     go_wp2
     have BN := Lib.hid (Below.new wr (.cells #[.int .i64 src,.int .i64 (t : Int),.int .i64 dst] 68))
     have x1 := new_cell wr 68 [.int .i64 src,.int .i64 (t : Int),.int .i64 dst] _ 1 rfl
     have x2 := new_cell wr 68 [.int .i64 src,.int .i64 (t : Int),.int .i64 dst] _ 2 rfl
     have zx : wr.heap.size < (wr.alloc (.cells #[.int .i64 src,.int .i64 (t : Int),.int .i64 dst] 68)).heap.size := by simp
     clear e0 e1 e2
     generalize hW : wr.alloc (.cells #[.int .i64 src,.int .i64 (t : Int),.int .i64 dst] 68) = W at *
     clear hW
     have TW := Lib.hid (TR.out.below BN.out)
     have PW := Lib.hid (PR.out.below BN.out)
     have a0 := TW.out.c0
     have a3 := TW.out.c3
     have zt := TW.out.z
     have pc0 := PW.out.c0
     have pc1 := PW.out.c1
     have pc2 := PW.out.c2
     have zp := PW.out.z
     obtain ⟨be,oe,hAE,hbe,g2,g4⟩ := EvsAt.get TW.out.ev HZ.out
     subst hAE
     go_cut [99] (fun a wx => ∃ bb : Bool,a = .bool bb ∧ Hid (bb = false ↔ move2 f bound class_ evs ⟨i,k,rk⟩ ⟨src,t,dst⟩) ∧ Hid (Below W.heap.size W wx))
     case first =>
      cases hobs : z.obs with
      | true =>
        rw [hobs] at g2
        have YES := Lib.hid (show move2 f bound class_ evs ⟨i,k,rk⟩ ⟨src,t,dst⟩ from fun h => by rw [evAt_get HZ.out,hobs] at h; cases h)
        clear hobs
        go_quiet (fail)
        go_wp2_with fail
        go_meet
        exact ⟨false,rfl,⟨fun _ => YES.out,fun _ => rfl⟩,(Below.refl _ _).draws _⟩
      | false =>
        rw [hobs] at g2
        have a1 := TW.out.c1
        by_cases hfa : z.fault = class_
        · have YES := Lib.hid (show move2 f bound class_ evs ⟨i,k,rk⟩ ⟨src,t,dst⟩ from fun _ h => by rw [evAt_get HZ.out] at h; exact absurd hfa h)
          rw [hfa] at g4
          clear hobs hfa
          go_quiet (fail)
          go_wp2_with fail
          go_meet
          exact ⟨false,rfl,⟨fun _ => YES.out,fun _ => rfl⟩,(Below.refl _ _).draws _⟩
        have HNF := Lib.hid hfa
        have hfb : (z.fault != class_) = true := by simpa using hfa
        have hfc : (z.fault == class_) = false := by simpa using hfa
        clear hfa
        generalize hzf : z.fault = zf at g4 hfb hfc
        have HZF := Lib.hid hzf
        clear hzf
        have HOB := Lib.hid hobs
        clear hobs
        go_still_tail 35,(by kernel_rfl)
        change wpList _ _ _ _ _ W.drew
        go_wp2_with fail
        refine (leads_c bt bm _ cE evs class_ bound (some ⟨bo,0,none⟩) cO n ed f ⟨i,k,rk⟩ i dst t z false _ (TW.out.below (Below.refl _ W).drew) HZ.out lev).mono ?_
        intro e w2 hs
        rcases hs.no1 with ⟨rfl,S,hb2⟩ | ⟨rfl,S,hb2⟩
        · have NO := Lib.hid (show ¬ move2 f bound class_ evs ⟨i,k,rk⟩ ⟨src,t,dst⟩ from fun h => S.out (by have := h (by rw [evAt_get HZ.out]; exact HOB.out) (by rw [evAt_get HZ.out]; exact HNF.out); rw [evAt_get HZ.out] at this; exact this))
          have HB2 := Lib.hid ((Below.refl _ W).drew.trans hb2)
          clear hb2
          go_wp2_with fail
          go_meet
          exact ⟨true,rfl,⟨fun h => (by cases h),fun h => absurd h NO.out⟩,HB2⟩
        · have YES := Lib.hid (show move2 f bound class_ evs ⟨i,k,rk⟩ ⟨src,t,dst⟩ from fun _ _ => by rw [evAt_get HZ.out]; exact S.out)
          have HB2 := Lib.hid ((Below.refl _ W).drew.trans hb2)
          clear hb2
          go_wp2_with fail
          go_meet
          exact ⟨false,rfl,⟨fun _ => YES.out,fun _ => rfl⟩,HB2⟩
     case rest =>
      obtain ⟨bb,rfl,HB,BC⟩ := hcut
      have BRC := Lib.hid (BR.out.trans ((BN.out.trans (BC.out.mono BN.out.size)).mono BR.out.size))
      clear a0 a3 zt pc0 pc1 pc2 zp x1 x2 g2 g4
      cases bb with
      | true =>
        have NO := Lib.hid (show ¬ move2 f bound class_ evs ⟨i,k,rk⟩ ⟨src,t,dst⟩ from fun h => by have := HB.out.2 h; cases this)
        go_wp2
        go_ret
        exact Tells.no (fun h => NO.out (h.m2 _ (List.mem_of_getElem? HX.out))) (BW2.out.trans (BRC.out.mono BW2.out.size))
      | false =>
        go_wp2
        go_roundw
        case rel => exact ⟨m + 1,by omega,by go_num,BRC,all_step HM.out HX.out (HB.out.1 rfl)⟩
        case measure => simp [intOf]; omega
   have M2 := Lib.hid (all_get (P := move2 f bound class_ evs ⟨i,k,rk⟩) (fun j y hj hy => HM.out j y (by omega) hy))
   obtain ⟨V2,rfl⟩ : ∃ V : World,V = wr := ⟨_,rfl⟩
   have a0 := TR.out.c0
   have a3 := TR.out.c3
   have zt := TR.out.z
   have pc0 := PR.out.c0
   have pc1 := PR.out.c1
   have pc2 := PR.out.c2
   have zp := PR.out.z
   obtain ⟨A3,c3,hbo,hrow,lE3,hE⟩ := RowsAt.row TR.out.rows hi
   have HE3 := Lib.hid hE
   clear hE
   go_wp2_with fail
   go_quiet (fail)
   have BQ := Lib.hid ((Below.refl V2.heap.size V2).draws nq)
   go_wp2_with fail
   generalize hW : V2.drewN nq = W3 at *
   clear hW a0 a3 zt pc0 pc1 pc2 zp hbo hrow
   have T3 := Lib.hid (TR.out.below BQ.out)
   have P3 := Lib.hid (PR.out.below BQ.out)
   have BW3 := Lib.hid (BWR.out.trans (BQ.out.mono BWR.out.size))
   have HE3' := Lib.hid (HE3.out.below EdE.stays BQ.out)
   clear HE3 BQ TR PR BWR BR HM
   go_loopw [110] (fun a wr => ∃ m : Nat,m ≤ (outOf ed i).length ∧ a = .int .i64 m ∧ Hid (Below W3.heap.size W3 wr) ∧ Hid (∀ (j : Nat) (x : Ed),j < m → (outOf ed i)[j]? = some x → ∀ y,y ∈ outOf ed k → move3 f bound class_ evs ⟨i,k,rk⟩ x y)) (fun a _ => (outOf ed i).length - (intOf a).toNat)
   case atStart => exact ⟨0,by omega,rfl,Below.refl _ _,fun j y h => absurd h (by omega)⟩
   case round =>
    obtain ⟨m,hm,rfl,BR,HM⟩ := hrel
    have TR := Lib.hid (T3.out.below BR.out)
    have PR := Lib.hid (P3.out.below BR.out)
    have BWR := Lib.hid (BW3.out.trans (BR.out.mono BW3.out.size))
    by_cases hlt : m < (outOf ed i).length
    · obtain ⟨b,off,x,hA,hb,hx,e0,e1,e2⟩ := EdsAt.at (HE3'.out.below EdE.stays BR.out) hlt
      have hxe := HEV.out i x (List.mem_of_getElem? hx)
      obtain ⟨src,ev,dst⟩ := x
      obtain ⟨t,rfl⟩ := Int.eq_ofNat_of_zero_le hxe.1
      have hte : t < evs.length := by have := hxe.2; simp only at this; omega
      clear hxe
      subst hA
      dsimp only at e0 e1 e2
      obtain ⟨z,hz⟩ : ∃ z,evs[t]? = some z := ⟨_,List.getElem?_eq_getElem hte⟩
      have HZ := Lib.hid hz
      have HX := Lib.hid hx
      clear hz hx
      go_wp2
      have BN := Lib.hid (Below.new wr (.cells #[.int .i64 src,.int .i64 (t : Int),.int .i64 dst] 68))
      have x1 := new_cell wr 68 [.int .i64 src,.int .i64 (t : Int),.int .i64 dst] _ 1 rfl
      have x2 := new_cell wr 68 [.int .i64 src,.int .i64 (t : Int),.int .i64 dst] _ 2 rfl
      have zx : wr.heap.size < (wr.alloc (.cells #[.int .i64 src,.int .i64 (t : Int),.int .i64 dst] 68)).heap.size := by simp
      clear e0 e1 e2
      generalize hW : wr.alloc (.cells #[.int .i64 src,.int .i64 (t : Int),.int .i64 dst] 68) = W at *
      clear hW
      have TW := Lib.hid (TR.out.below BN.out)
      have PW := Lib.hid (PR.out.below BN.out)
      have a0 := TW.out.c0
      have a3 := TW.out.c3
      have zt := TW.out.z
      have pc0 := PW.out.c0
      have pc1 := PW.out.c1
      have pc2 := PW.out.c2
      have zp := PW.out.z
      obtain ⟨A4,c4,hbo,hrow,lE4,hE⟩ := RowsAt.row TW.out.rows hk
      have HE4 := Lib.hid hE
      clear hE
      go_wp2_with fail
      go_quiet (fail)
      have BQ := Lib.hid ((Below.refl W.heap.size W).draws nq)
      go_wp2_with fail
      generalize hW : W.drewN nq = W4 at *
      clear hW a0 a3 zt pc0 pc1 pc2 zp hbo hrow
      have T4 := Lib.hid (TW.out.below BQ.out)
      have P4 := Lib.hid (PW.out.below BQ.out)
      have BN4 := Lib.hid (BN.out.trans (BQ.out.mono BN.out.size))
      have HE4' := Lib.hid (HE4.out.below EdE.stays BQ.out)
      have y1 := old_cell BQ.out x1 zx
      have y2 := old_cell BQ.out x2 zx
      have zy := Nat.lt_of_lt_of_le zx BQ.out.size
      clear x1 x2 zx HE4 BQ TW PW BN
      obtain ⟨V4,rfl⟩ : ∃ V : World,V = wr := ⟨_,rfl⟩
      go_loopw [123] (fun a wr => ∃ q : Nat,q ≤ (outOf ed k).length ∧ a = .int .i64 q ∧ Hid (Below W4.heap.size W4 wr) ∧ Hid (∀ (j : Nat) (y : Ed),j < q → (outOf ed k)[j]? = some y → move3 f bound class_ evs ⟨i,k,rk⟩ ⟨src,t,dst⟩ y)) (fun a _ => (outOf ed k).length - (intOf a).toNat)
      case atStart => exact ⟨0,by omega,rfl,Below.refl _ _,fun j y h => absurd h (by omega)⟩
      case round =>
       obtain ⟨q,hq,rfl,BR4,HM4⟩ := hrel
       have TR4 := Lib.hid (T4.out.below BR4.out)
       have PR4 := Lib.hid (P4.out.below BR4.out)
       by_cases hlt4 : q < (outOf ed k).length
       · obtain ⟨b',off',y,hA',hb',hy,e0,e1,e2⟩ := EdsAt.at (HE4'.out.below EdE.stays BR4.out) hlt4
         obtain ⟨ysrc,yev,ydst⟩ := y
         subst hA'
         dsimp only at e0 e1 e2
         have HY := Lib.hid hy
         clear hy
         go_wp2
         have BN := Lib.hid (Below.new wr (.cells #[.int .i64 ysrc,.int .i64 yev,.int .i64 ydst] 68))
         have x1 := new_cell wr 68 [.int .i64 ysrc,.int .i64 yev,.int .i64 ydst] _ 1 rfl
         have x2 := new_cell wr 68 [.int .i64 ysrc,.int .i64 yev,.int .i64 ydst] _ 2 rfl
         have zx : wr.heap.size < (wr.alloc (.cells #[.int .i64 ysrc,.int .i64 yev,.int .i64 ydst] 68)).heap.size := by simp
         have B4W := Lib.hid (BR4.out.trans (BN.out.mono BR4.out.size))
         have u1 := old_cell B4W.out y1 zy
         have u2 := old_cell B4W.out y2 zy
         have zu : V4.heap.size < (wr.alloc (.cells #[.int .i64 ysrc,.int .i64 yev,.int .i64 ydst] 68)).heap.size := Nat.lt_of_lt_of_le zy B4W.out.size
         clear e0 e1 e2
         generalize hW : wr.alloc (.cells #[.int .i64 ysrc,.int .i64 yev,.int .i64 ydst] 68) = W at *
         clear hW
         have TW := Lib.hid (TR4.out.below BN.out)
         have PW := Lib.hid (PR4.out.below BN.out)
         have a0 := TW.out.c0
         have a3 := TW.out.c3
         have zt := TW.out.z
         have pc0 := PW.out.c0
         have pc1 := PW.out.c1
         have pc2 := PW.out.c2
         have zp := PW.out.z
         obtain ⟨be,oe,hAE,hbe,g2,g4⟩ := EvsAt.get TW.out.ev HZ.out
         subst hAE
         go_cut [154] (fun a wx => ∃ bb : Bool,a = .bool bb ∧ Hid (bb = false ↔ move3 f bound class_ evs ⟨i,k,rk⟩ ⟨src,t,dst⟩ ⟨ysrc,yev,ydst⟩) ∧ Hid (Below W.heap.size W wx))
         case first =>
          by_cases he : (t : Int) = yev
          rotate_left
          · have YES := Lib.hid (show move3 f bound class_ evs ⟨i,k,rk⟩ ⟨src,t,dst⟩ ⟨ysrc,yev,ydst⟩ from fun h => absurd h he)
            have he' : ((t : Int) == yev) = false := by simpa using he
            clear he
            go_quiet (fail)
            go_wp2_with fail
            go_meet
            exact ⟨false,rfl,⟨fun _ => YES.out,fun _ => rfl⟩,(Below.refl _ _).draws _⟩
          subst he
          cases hobs : z.obs with
          | false =>
            rw [hobs] at g2
            have YES := Lib.hid (show move3 f bound class_ evs ⟨i,k,rk⟩ ⟨src,t,dst⟩ ⟨ysrc,t,ydst⟩ from fun _ h => by rw [evAt_get HZ.out,hobs] at h; cases h)
            clear hobs
            go_quiet (fail)
            go_wp2_with fail
            go_meet
            exact ⟨false,rfl,⟨fun _ => YES.out,fun _ => rfl⟩,(Below.refl _ _).draws _⟩
          | true =>
            rw [hobs] at g2
            have HOB := Lib.hid hobs
            clear hobs
            go_still_tail 25,(by kernel_rfl)
            change wpList _ _ _ _ _ W.drew
            go_wp2_with fail
            refine (leads_c bt bm _ cE evs class_ bound (some ⟨bo,0,none⟩) cO n ed f ⟨i,k,rk⟩ dst ydst t z true _ (TW.out.below (Below.refl _ W).drew) HZ.out lev).mono ?_
            intro e w2 hs
            rcases hs.no1 with ⟨rfl,S,hb2⟩ | ⟨rfl,S,hb2⟩
            · have NO := Lib.hid (show ¬ move3 f bound class_ evs ⟨i,k,rk⟩ ⟨src,t,dst⟩ ⟨ysrc,t,ydst⟩ from fun h => S.out (by have := h rfl (by rw [evAt_get HZ.out]; exact HOB.out); rw [evAt_get HZ.out] at this; exact this))
              have HB2 := Lib.hid ((Below.refl _ W).drew.trans hb2)
              clear hb2
              go_wp2_with fail
              go_meet
              exact ⟨true,rfl,⟨fun h => (by cases h),fun h => absurd h NO.out⟩,HB2⟩
            · have YES := Lib.hid (show move3 f bound class_ evs ⟨i,k,rk⟩ ⟨src,t,dst⟩ ⟨ysrc,t,ydst⟩ from fun _ _ => by rw [evAt_get HZ.out]; exact S.out)
              have HB2 := Lib.hid ((Below.refl _ W).drew.trans hb2)
              clear hb2
              go_wp2_with fail
              go_meet
              exact ⟨false,rfl,⟨fun _ => YES.out,fun _ => rfl⟩,HB2⟩
         case rest =>
          obtain ⟨bb,rfl,HB,BC⟩ := hcut
          have BRC := Lib.hid (BR4.out.trans ((BN.out.trans (BC.out.mono BN.out.size)).mono BR4.out.size))
          clear a0 a3 zt pc0 pc1 pc2 zp x1 x2 u1 u2 g2 g4
          cases bb with
          | true =>
            have NO := Lib.hid (show ¬ move3 f bound class_ evs ⟨i,k,rk⟩ ⟨src,t,dst⟩ ⟨ysrc,yev,ydst⟩ from fun h => by have := HB.out.2 h; cases this)
            go_wp2
            go_ret
            exact Tells.no (fun h => NO.out (h.m3 _ (List.mem_of_getElem? HX.out) _ (List.mem_of_getElem? HY.out))) (BWR.out.trans ((BN4.out.trans (BRC.out.mono BN4.out.size)).mono BWR.out.size))
          | false =>
            go_wp2
            go_roundw
            case rel => exact ⟨q + 1,by omega,by go_num,BRC,all_step HM4.out HY.out (HB.out.1 rfl)⟩
            case measure => simp [intOf]; omega
       · have ALL := Lib.hid (all_get (P := move3 f bound class_ evs ⟨i,k,rk⟩ ⟨src,t,dst⟩) (fun j y hj hy => HM4.out j y (by omega) hy))
         go_wp2
         go_roundw
         case rel => exact ⟨m + 1,by omega,by go_num,BR.out.trans ((BN4.out.trans (BR4.out.mono BN4.out.size)).mono BR.out.size),all_step (P := (fun x => ∀ y,y ∈ outOf ed k → move3 f bound class_ evs ⟨i,k,rk⟩ x y)) HM.out HX.out ALL.out⟩
         case measure => simp [intOf]; omega
    · have M3 := Lib.hid (all_get (P := (fun x => ∀ y,y ∈ outOf ed k → move3 f bound class_ evs ⟨i,k,rk⟩ x y)) (fun j y hj hy => HM.out j y (by omega) hy))
      go_wp2
      go_ret
      exact Tells.yes ⟨M1.out,M2.out,M3.out⟩ BWR.out
def InEvs (evs : List Ev) (l : List Int) : Prop := ∀ x,x ∈ l → 0 ≤ x ∧ x < evs.length

set_option maxHeartbeats 400000 in
theorem faulty1_c (b1 b2 : Nat) (AE : Option Addr) (cE : Nat) (evs : List Ev) (class_ : Int) (t : Nat) (w : World)
 (h1 : w.cell? ⟨b1,0,none⟩ = some (.slice AE evs.length cE)) (hE : EvsAt w AE evs) (ht : t < evs.length) (h2 : w.cell? ⟨b2,0,none⟩ = some (.int .i64 class_)) (lev : evs.length ≤ 140737488355328) :
 Calls Try.prog 74 #[.int .i64 t,.pointer (some ⟨b1,0,none⟩),.pointer (some ⟨b2,0,none⟩)] w (Tells ((evAt evs t).fault = class_) w) := by
 obtain ⟨z,hz⟩ : ∃ z,evs[t]? = some z := ⟨_,List.getElem?_eq_getElem ht⟩
 obtain ⟨be,oe,rfl,hbe,g2,g4⟩ := EvsAt.get hE hz
 have HZ := Lib.hid hz
 clear hE hz
 go_enter Try.func74,Try.ntmps74
 go_wp2_with fail
 go_quiet (fail)
 go_wp2
 go_ret
 exact ⟨_,rfl,by rw [evAt_get HZ.out]; simp,(Below.refl _ _).draws _⟩

set_option maxHeartbeats 400000 in
theorem alike1_c (b1 : Nat) (AE : Option Addr) (cE : Nat) (evs : List Ev) (t : Nat) (w : World)
 (h1 : w.cell? ⟨b1,0,none⟩ = some (.slice AE evs.length cE)) (hE : EvsAt w AE evs) (ht : t < evs.length) (lev : evs.length ≤ 140737488355328) :
 Calls Try.prog 78 #[.int .i64 t,.pointer (some ⟨b1,0,none⟩)] w (Tells ((evAt evs t).obs = false) w) := by
 obtain ⟨z,hz⟩ : ∃ z,evs[t]? = some z := ⟨_,List.getElem?_eq_getElem ht⟩
 obtain ⟨be,oe,rfl,hbe,g2,g4⟩ := EvsAt.get hE hz
 have HZ := Lib.hid hz
 clear hE hz
 go_enter Try.func78,Try.ntmps78
 go_wp2_with fail
 go_ret
 exact ⟨_,rfl,by rw [evAt_get HZ.out]; cases z.obs <;> simp,Below.refl _ _⟩

def faultyP (evs : List Ev) (class_ : Int) (l : List Int) : Prop := ∃ x,x ∈ l ∧ (evAt evs x).fault = class_

set_option maxHeartbeats 400000 in
theorem faulty_c (AE : Option Addr) (cE : Nat) (evs : List Ev) (class_ : Int) (A : Option Addr) (c : Nat) (l : List Int) (w : World)
 (hE : EvsAt w AE evs) (lev : evs.length ≤ 140737488355328) (hA : IntsAt w A l) (ll : l.length ≤ 140737488355328) (hl : InEvs evs l) :
 Calls Try.prog 45 #[.slice AE evs.length cE,.int .i64 class_,.slice A l.length c] w (Tells (faultyP evs class_ l) w) := by
 have HB := Lib.hid (((Below.new w (.cells #[.slice AE evs.length cE] 71)).alloc (by simp) (.cells #[.int .i64 class_] 3)))
 have HC := Lib.hid (containsI_c 74 #[.pointer (some ⟨w.heap.size,0,none⟩),.pointer (some ⟨w.heap.size + 1,0,none⟩)] (enters_of Try.func74 (by kernel_rfl) rfl) (fun x => (evAt evs x).fault = class_) A c l
  ((w.alloc (.cells #[.slice AE evs.length cE] 71)).alloc (.cells #[.int .i64 class_] 3)) (hA.below IntE.stays HB.out) ll (by
    intro W x hx hb
    obtain ⟨h0,h1⟩ := hl x hx
    obtain ⟨t,rfl⟩ := Int.eq_ofNat_of_zero_le h0
    refine faulty1_c _ _ AE cE evs class_ t W ?_ (hE.below EvE.stays (HB.out.trans (hb.mono HB.out.size))) (by omega) ?_ lev
    · exact old_cell hb (old_cell (Below.new _ _) (new_cell w _ [_] _ 0 rfl) (by simp)) (by simp; omega)
    · have := new_cell (w.alloc (.cells #[.slice AE evs.length cE] 71)) 3 [.int .i64 class_] _ 0 rfl
      simp only [size_alloc'] at this
      exact old_cell hb this (by simp)))
 clear hE hA hl
 go_enter Try.func45,Try.ntmps45
 go_wp2_with fail
 refine HC.out.mono ?_
 rintro e w1 ⟨r,rfl,hr,hb⟩
 have HR := Lib.hid hr
 clear hr
 go_wp2
 go_ret
 exact ⟨r,rfl,HR.out,HB.out.trans (hb.mono HB.out.size)⟩
structure Few (a : Au) : Prop where
 l1 : a.al.length ≤ 10
 l2 : a.mr.length ≤ 10
 l3 : a.ed.length ≤ 10
 n : a.n ≤ 40 ∨ ¬ a.Right

def projV (o l : List Int) : List Int := l.filter (fun x => decide (x ∈ o))
theorem Below.setCells {B : Nat} {a : World} {g : Nat} (hB : B ≤ g) : ∀ (vs : List Value) (o : Nat) (w : World),Below B a w → Below B a (w.setCells g o vs)
 | [],_,_,h => h
 | _ :: vs,o,w,h => Below.setCells hB vs (o + 1) _ (h.setCell (p := ⟨g,o,none⟩) hB _)

def GivesAt (B : Nat) (l : List Int) (w : World) (e : Ending) (w' : World) : Prop := ∃ A c,e = .returned (.slice A l.length c) ∧ Hid (IntsAt w' A l) ∧ Hid (w.heap.size ≤ w'.heap.size) ∧ Below B w w'

structure Left (B : Nat) (q : Int → Bool) (l : List Int) (c g : Nat) (w : World) (i j : Nat) (wr : World) : Prop where
 ij : i < j
 jn : j ≤ l.length
 cs : ∃ cs : List Value,BlkAt wr g 3 cs ∧ cs.length = c ∧ cs.take i = ((l.take j).filter (fun x => !q x)).map (Value.int .i64) ∧ (cs.drop j).take (l.length - j) = (l.drop j).map (Value.int .i64)
 len : i = ((l.take j).filter (fun x => !q x)).length
 bel : Below B w wr
 sz : w.heap.size ≤ wr.heap.size
 hg : B ≤ g
 gw : g < wr.heap.size

theorem take_filter (l : List Int) (q : Int → Bool) (k : Nat) (h : ∀ j y,j < k → l[j]? = some y → ¬ q y = true) : (l.take k).filter (fun x => !q x) = l.take k := by
 rw [List.filter_eq_self]
 intro a ha
 obtain ⟨j,hj,rfl⟩ := List.mem_iff_getElem.1 ha
 have hj' : j < k := by simp at hj; omega
 have := h j (l.take k)[j] hj' (by rw [List.getElem_take]; exact List.getElem?_eq_getElem _)
 simpa using this

theorem Left.start {B : Nat} {q : Int → Bool} {l : List Int} {c g : Nat} {w w1 : World} {cs : List Value} {k : Nat} {x : Int} (hb : BlkAt w g 3 cs) (hB : B ≤ g) (hBw : B ≤ w.heap.size) (hc : cs.length = c) (hn : l.length ≤ cs.length) (ht : cs.take l.length = l.map (Value.int .i64))
 (hx : l[k]? = some x) (hq : q x = true) (h : ∀ j y,j < k → l[j]? = some y → ¬ q y = true) (h1 : Below w.heap.size w w1) : Left B q l c g w k (k + 1) w1 := by
 have hk : k < l.length := (List.getElem?_eq_some_iff.1 hx).1
 have hf : (l.take (k + 1)).filter (fun x => !q x) = l.take k := by
  rw [List.take_add_one,hx,List.filter_append,take_filter l q k h]
  simp [hq]
 refine ⟨by omega,by omega,⟨cs,hb.below h1 hb.lt,hc,?_,?_⟩,?_,h1.mono hBw,h1.size,hB,Nat.lt_of_lt_of_le hb.lt h1.size⟩
 · rw [hf,List.map_take,← ht,List.take_take,Nat.min_eq_left (by omega)]
 · rw [List.map_drop,← ht,List.drop_take]
 · rw [hf]; simp; omega

theorem Left.at {B : Nat} {q : Int → Bool} {l : List Int} {c g : Nat} {w wr : World} {i j : Nat} (h : Left B q l c g w i j wr) (hj : j < l.length) :
 ∃ x,l[j]? = some x ∧ wr.cell? ⟨g,j,none⟩ = some (.int .i64 x) := by
 obtain ⟨cs,hb,hc,h1,h2⟩ := h.cs
 refine ⟨l[j],List.getElem?_eq_getElem hj,?_⟩
 have : ((cs.drop j).take (l.length - j))[0]? = some (.int .i64 l[j]) := by rw [h2]; simp [hj]
 rw [List.getElem?_take,if_pos (by omega),List.getElem?_drop] at this
 rw [hb.cell]; exact this
theorem Left.cell {B : Nat} {q : Int → Bool} {l : List Int} {c g : Nat} {w wr : World} {i j : Nat} (h : Left B q l c g w i j wr) (hlc : l.length ≤ c) {t : Nat} (ht : t < l.length) :
 (wr.cell? ⟨g,t,none⟩).isSome = true ∧ wr.frozen? ⟨g,t,none⟩ = false := by
 obtain ⟨cs,hb,hc,h1,h2⟩ := h.cs
 refine ⟨?_,hb.free t⟩
 rw [hb.cell,List.getElem?_eq_getElem (by omega)]; rfl
theorem Left.skip {B : Nat} {q : Int → Bool} {l : List Int} {c g : Nat} {w wr w1 : World} {i j : Nat} (h : Left B q l c g w i j wr) {x : Int} (hx : l[j]? = some x) (hq : q x = true) (h1 : Below wr.heap.size wr w1) (hBw : B ≤ w.heap.size) : Left B q l c g w i (j + 1) w1 := by
 obtain ⟨hij,hjn,⟨cs,hb,hc,h2,h3⟩,hl,hbe,hsz,hg,hgw⟩ := h
 have hj : j < l.length := (List.getElem?_eq_some_iff.1 hx).1
 have hf : (l.take (j + 1)).filter (fun x => !q x) = (l.take j).filter (fun x => !q x) := by
  rw [List.take_add_one,hx,List.filter_append]; simp [hq]
 refine ⟨by omega,hj,⟨cs,hb.below h1 hb.lt,hc,by rw [hf]; exact h2,?_⟩,by rw [hf]; exact hl,hbe.trans (h1.mono (by omega)),Nat.le_trans hsz h1.size,hg,Nat.lt_of_lt_of_le hgw h1.size⟩
 have := congrArg (List.drop 1) h3
 rw [List.drop_take,List.drop_drop,← List.map_drop,List.drop_drop,show l.length - j - 1 = l.length - (j + 1) by omega] at this
 exact this
theorem Left.keep {B : Nat} {q : Int → Bool} {l : List Int} {c g : Nat} {w wr w1 : World} {i j : Nat} (h : Left B q l c g w i j wr) {x : Int} (hx : l[j]? = some x) (hq : q x = false) (h1 : Below wr.heap.size wr w1) (hBw : B ≤ w.heap.size) (hlc : l.length ≤ c) : Left B q l c g w (i + 1) (j + 1) (w1.setCell ⟨g,i,none⟩ (.int .i64 x)) := by
 obtain ⟨hij,hjn,⟨cs,hb,hc,h2,h3⟩,hl,hbe,hsz,hg,hgw⟩ := h
 have hj : j < l.length := (List.getElem?_eq_some_iff.1 hx).1
 have hf : (l.take (j + 1)).filter (fun x => !q x) = (l.take j).filter (fun x => !q x) ++ [x] := by
  rw [List.take_add_one,hx,List.filter_append]; simp [hq]
 refine ⟨by omega,hj,⟨cs.set i (.int .i64 x),(hb.below h1 hb.lt).set_ i _,by simp [hc],?_,?_⟩,by rw [hf]; simp; exact hl,(hbe.trans (h1.mono (by omega))).setCell (p := ⟨g,i,none⟩) hg _,Nat.le_trans hsz (by simpa using h1.size),hg,by simpa using Nat.lt_of_lt_of_le hgw h1.size⟩
 · rw [hf,List.map_append,← h2,List.take_add_one,List.getElem?_set_self (by omega),List.take_set_of_le (Nat.le_refl _)]; rfl
 · have := congrArg (List.drop 1) h3
   rw [List.drop_take,List.drop_drop,← List.map_drop,List.drop_drop,show l.length - j - 1 = l.length - (j + 1) by omega] at this
   rw [List.drop_set_of_lt (by omega)]
   exact this
theorem Left.done {B : Nat} {q : Int → Bool} {l : List Int} {c g : Nat} {w wr : World} {i : Nat} (h : Left B q l c g w i l.length wr) (vs : List Value) :
 i = (l.filter (fun x => !q x)).length ∧ IntsAt (wr.setCells g i vs) (some ⟨g,0,none⟩) (l.filter (fun x => !q x)) ∧ Below B w (wr.setCells g i vs) ∧ w.heap.size ≤ (wr.setCells g i vs).heap.size := by
 obtain ⟨hij,hjn,⟨cs,hb,hc,h2,h3⟩,hl,hbe,hsz,hg,hgw⟩ := h
 rw [List.take_length] at h2 hl
 have hz : wr.heap.size ≤ (wr.setCells g i vs).heap.size := (Below.setCells (B := 0) (a := wr) (Nat.zero_le _) vs i wr (Below.refl _ _)).size
 refine ⟨hl,fun _ => ⟨g,0,rfl,Nat.lt_of_lt_of_le hgw hz,fun t x hx => ⟨[.int .i64 x],rfl,rfl,fun j v hj => ?_⟩⟩,Below.setCells hg vs i wr hbe,Nat.le_trans hsz hz⟩
 cases j with
 | succ j => simp at hj
 | zero =>
   simp at hj
   subst hj
   have ht : t < i := by rw [hl]; exact (List.getElem?_eq_some_iff.1 hx).1
   rw [World.cell?_setCells_out _ _ _ _ _ (fun _ _ => .inl (by simp; omega)),hb.cell]
   have : (cs.take i)[t]? = some (.int .i64 x) := by rw [h2,List.getElem?_map,hx]; rfl
   rw [List.getElem?_take,if_pos ht] at this
   simpa using this

set_option maxRecDepth 100000 in
set_option maxHeartbeats 1000000 in
theorem deleteI_c (g : Nat) (lb : Array Value) (eg : ∀ args w,(callFunc g args).run Try.prog w = .ok (.enter g args) w) (q : Int → Bool) (B : Nat) (A : Option Addr) (c : Nat) (l : List Int) (w : World) (hBw : B ≤ w.heap.size)
 (h : OwnInts B l (.slice A l.length c) w) (hl : l.length ≤ 1048576) (hp : ∀ (W : World) (x : Int),x ∈ l → Below B w W → Calls Try.prog g (#[.int .i64 x] ++ lb) W (Tells (q x = true) W)) :
 Calls Try.prog 76 #[.slice A l.length c,.func (.func g) #[] lb] w (GivesAt B (l.filter (fun x => !q x)) w) := by
 have HC := Lib.hid (indexI_c g lb eg (fun x => q x = true) A c l w h.reads (by omega) (fun W x hx hb => hp W x hx (hb.mono hBw)))
 have HP := Lib.hid hp
 have HO := Lib.hid h
 clear hp h
 go_enter Try.func76,Try.ntmps76
 go_wp2_with fail
 refine HC.out.mono ?_
 rintro e w1 ⟨r,rfl,hr,hb⟩
 have BH := Lib.hid hb
 clear hb HC
 rcases hr with ⟨rfl,hr⟩ | ⟨k,x,rfl,hx,hq,hr⟩
 · have HR := Lib.hid hr
   clear hr
   go_wp2
   have hf : l.filter (fun x => !q x) = l := by
    rw [List.filter_eq_self]; intro a ha; simpa using HR.out a ha
   refine bodyPost_ret (v := .slice A l.length c) (by simp [results,Try.results76,go_sem]) rfl ?_
   rw [hf]
   exact ⟨A,c,rfl,HO.out.reads.below IntE.stays BH.out,BH.out.size,BH.out.mono hBw⟩
 · have hk : k < l.length := (List.getElem?_eq_some_iff.1 hx).1
   obtain ⟨A',c',hv,hO⟩ := HO.out
   cases hv
   rcases hO with rfl | ⟨gb,cs,rfl,hB,hbk,hlc,htk,hlcc,hcc,hmx⟩
   · simp at hk
   have HL := Lib.hid (Left.start hbk hB hBw hcc.symm hlc htk hx hq hr BH.out)
   have hkm1 : ((k : Int) == -1) = false := by rw [beq_eq_false_iff_ne]; omega
   have hB' := Lib.hid hB
   have hBw' := hBw
   clear hbk htk hx hq hr HO hlc BH hB hBw
   rw [← hcc] at hmx
   clear hcc
   go_wp2
   go_loopw [5,6] (fun a d wr => ∃ i j : Nat,j ≤ l.length ∧ i < j ∧ a = .int .i64 i ∧ d = .int .i64 j ∧ Hid (Left B q l c gb w i j wr)) (fun _ d _ => l.length - (intOf d).toNat)
   case atStart => exact ⟨k,k + 1,by omega,by omega,rfl,by go_num,HL⟩
   case round =>
    obtain ⟨i,j,hj,hij,rfl,rfl,HI⟩ := hrel
    by_cases hlt : j < l.length
    · obtain ⟨x,hx,e0⟩ := HI.out.at hlt
      have hz := HI.out.gw
      have hc := Lib.hid (HP.out wr x (List.mem_of_getElem? hx) HI.out.bel)
      have HX := Lib.hid hx
      clear hx
      go_wp2_with fail
      refine hc.out.mono ?_
      intro e w2 hs
      rcases hs.no1 with ⟨rfl,S,hb1⟩ | ⟨rfl,S,hb1⟩
      · have b2 := HI.out.cell hlcc (t := i) (by omega)
        have b1 : ∃ u,w2.cell? ⟨gb,i,none⟩ = some u := by rw [hb1.cell (p := ⟨gb,i,none⟩) hz]; exact Option.isSome_iff_exists.1 b2.1
        obtain ⟨u,hu⟩ := b1
        have hfz : w2.frozen? ⟨gb,i,none⟩ = false := (hb1.frozen (p := ⟨gb,i,none⟩) hz).trans b2.2
        have HB1 := Lib.hid hb1
        clear hb1 b2 e0
        go_wp2
        go_roundw
        case rel => exact ⟨i + 1,j + 1,by omega,by omega,by go_num,by go_num,HI.out.keep HX.out (by simpa using S.out) HB1.out hBw' hlcc⟩
        case measure => simp [intOf]; omega
      · go_wp2
        go_roundw
        case rel => exact ⟨i,j + 1,by omega,by omega,rfl,by go_num,HI.out.skip HX.out S.out hb1 hBw'⟩
        case measure => simp [intOf]; omega
    · obtain rfl : j = l.length := by omega
      have hcl : ∀ ty,(Builtin.clear_ #[36] ty #[.slice (some ⟨gb,i,none⟩) (l.length - i) (c - i)]).run Try.prog wr = .ok (.tuple #[]) (wr.setCells gb i (List.replicate (l.length - i) (.int .i64 0))) :=
       fun ty => Lib.run_clear_slice wr _ _ ty _ Try.underlying36 (by intro w; kernel_rfl) rfl rfl gb i _ _ (by omega) (fun t ht => (HI.out.cell hlcc (t := i + t) (by omega)).1) (fun t ht => (HI.out.cell hlcc (t := i + t) (by omega)).2)
      go_wp2_with fail
      have HD := Lib.hid (HI.out.done (List.replicate (l.length - i) (.int .i64 0)))
      go_ret
      obtain ⟨h1,h2,h3,h4⟩ := HD.out
      exact ⟨some ⟨gb,0,none⟩,c,by rw [← h1]; rfl,h2,h4,h3⟩

def seen (evs : List Ev) (l : List Int) : List Int := l.filter (fun x => (evAt evs x).obs)

set_option maxHeartbeats 400000 in
theorem observe_c (b1 : Nat) (AE : Option Addr) (cE : Nat) (evs : List Ev) (A : Option Addr) (c : Nat) (l : List Int) (w : World)
 (h1 : w.cell? ⟨b1,0,none⟩ = some (.slice AE evs.length cE)) (hb1 : b1 < w.heap.size) (hE : EvsAt w AE evs) (lev : evs.length ≤ 140737488355328) (hA : IntsAt w A l) (ll : l.length ≤ 1048576) (hl : InEvs evs l) :
 Calls Try.prog 75 #[.slice A l.length c,.pointer (some ⟨b1,0,none⟩)] w (GivesAt w.heap.size (seen evs l) w) := by
 have HC := Lib.hid (cloneI_c A c l w hA ll (fun e => by
  by_cases h : l = []
  · exact h
  · obtain ⟨b,off,h2,_⟩ := hA h
    rw [e] at h2; cases h2))
 have HD := Lib.hid (fun (A1 : Option Addr) (c1 : Nat) (w1 : World) (ho : OwnInts w.heap.size l (.slice A1 l.length c1) w1) (hb : Below w.heap.size w w1) =>
  deleteI_c 78 #[.pointer (some ⟨b1,0,none⟩)] (enters_of Try.func78 (by kernel_rfl) rfl) (fun x => !(evAt evs x).obs) w.heap.size A1 c1 l w1 hb.size ho ll (by
   intro W x hx hW
   obtain ⟨h0,h2⟩ := hl x hx
   obtain ⟨t,rfl⟩ := Int.eq_ofNat_of_zero_le h0
   have hbW := hb.trans hW
   refine (alike1_c b1 AE cE evs t W ((hbW.cell (p := ⟨b1,0,none⟩) hb1).trans h1) (hE.below EvE.stays hbW) (by omega) lev).mono ?_
   rintro e w' ⟨r,rfl,hr,hb'⟩
   exact ⟨r,rfl,by rw [hr]; simp,hb'⟩))
 clear h1 hE hA hl
 go_enter Try.func75,Try.ntmps75
 go_wp2_with fail
 refine HC.out.mono ?_
 rintro e w1 ⟨A1,c1,rfl,ho,hb⟩
 have BW := Lib.hid hb
 clear hb
 go_wp2_with fail
 refine (HD.out A1 c1 w1 ho.out BW.out).mono ?_
 rintro e w2 ⟨A2,c2,rfl,h2,hz,hb⟩
 have hf : l.filter (fun x => !(fun x => !(evAt evs x).obs) x) = seen evs l := by unfold seen; congr 1; funext x; simp
 rw [hf] at h2 ⊢
 have B2 := Lib.hid hb
 clear hb
 go_wp2
 go_ret
 exact ⟨A2,c2,rfl,h2,Nat.le_trans BW.out.size hz.out,BW.out.trans B2.out⟩

theorem seen_le (evs : List Ev) (l : List Int) : (seen evs l).length ≤ l.length := List.length_filter_le ..

set_option maxHeartbeats 400000 in
theorem alikeW_c (AE : Option Addr) (cE : Nat) (evs : List Ev) (A1 A2 : Option Addr) (c1 c2 : Nat) (l1 l2 : List Int) (w : World)
 (hE : EvsAt w AE evs) (lev : evs.length ≤ 140737488355328) (h1 : IntsAt w A1 l1) (n1 : l1.length ≤ 1048576) (i1 : InEvs evs l1) (h2 : IntsAt w A2 l2) (n2 : l2.length ≤ 1048576) (i2 : InEvs evs l2) :
 Calls Try.prog 46 #[.slice AE evs.length cE,.slice A1 l1.length c1,.slice A2 l2.length c2] w (Tells (seen evs l1 = seen evs l2) w) := by
 have H0 : ∀ w1,Below (w.heap.size + 1) (w.alloc (.cells #[.slice AE evs.length cE] 71)) w1 → Below w.heap.size w w1 ∧ w1.cell? ⟨w.heap.size,0,none⟩ = some (.slice AE evs.length cE) ∧ w.heap.size < w1.heap.size := fun w1 hb =>
  ⟨(Below.new w _).trans (hb.mono (by omega)),(hb.cell (p := ⟨w.heap.size,0,none⟩) (by simp)).trans (new_cell w _ [_] _ 0 rfl),by have := hb.size; simp at this; omega⟩
 have HO := Lib.hid (fun (A : Option Addr) (c : Nat) (l : List Int) (hA : IntsAt w A l) (ll : l.length ≤ 1048576) (hl : InEvs evs l) (w1 : World) (hb : Below (w.heap.size + 1) (w.alloc (.cells #[.slice AE evs.length cE] 71)) w1) =>
  observe_c w.heap.size AE cE evs A c l w1 (H0 w1 hb).2.1 (H0 w1 hb).2.2 (hE.below EvE.stays (H0 w1 hb).1) lev (hA.below IntE.stays (H0 w1 hb).1) ll hl)
 have HH0 := Lib.hid H0
 have H1 := Lib.hid h1
 have H2 := Lib.hid h2
 have I1 := Lib.hid i1
 have I2 := Lib.hid i2
 clear hE h1 h2 i1 i2 H0
 go_enter Try.func46,Try.ntmps46
 go_wp2_with fail
 have B0 : Hid (Below (w.heap.size + 1) (w.alloc (.cells #[.slice AE evs.length cE] 71)) (w.alloc (.cells #[.slice AE evs.length cE] 71))) := Below.refl _ _
 generalize hW : w.alloc (.cells #[.slice AE evs.length cE] 71) = W0 at *
 clear hW
 refine (HO.out A1 c1 l1 H1.out n1 I1.out W0 B0.out).mono ?_
 rintro e w1 ⟨A3,c3,rfl,h3,hz,hb⟩
 have B1 := Lib.hid (hb.mono (B' := w.heap.size + 1) (HH0.out W0 B0.out).2.2)
 have BF := Lib.hid hb
 clear hb
 go_wp2_with fail
 refine (HO.out A2 c2 l2 H2.out n2 I2.out w1 B1.out).mono ?_
 rintro e w2 ⟨A4,c4,rfl,h4,hz4,hb⟩
 have h3' := Lib.hid (h3.out.below IntE.stays hb)
 have B2 := Lib.hid (B1.out.trans (hb.mono (B' := w.heap.size + 1) (HH0.out w1 B1.out).2.2))
 clear hb h3
 go_wp2_with fail
 have s1 := seen_le evs l1
 have s2 := seen_le evs l2
 refine (equalI_c A3 A4 c3 c4 (seen evs l1) (seen evs l2) w2 h3'.out h4.out (by omega) (by omega)).mono ?_
 rintro e w3 ⟨r,rfl,hr,hb⟩
 have HR := Lib.hid hr
 have B3 := Lib.hid (B2.out.trans (hb.mono (B' := w.heap.size + 1) (HH0.out w2 B2.out).2.2))
 clear hr hb
 go_wp2
 go_ret
 exact ⟨r,rfl,HR.out,(HH0.out w3 B3.out).1⟩
end Go.Proofs.Ytccfcaejlohahaa
