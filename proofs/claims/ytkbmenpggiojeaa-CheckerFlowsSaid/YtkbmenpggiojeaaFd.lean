/-
  The checker's look at flows of transitions.
-/
import Derived.Test.YtkbmenpggiojeaaFc
import Derived.Test.YtkbmenpggiojeaaNi
import Derived.RegionTactic
import Derived.BigRegion
namespace Go.Proofs.Ytkbmenpggiojeaa
open Go.RowKit
set_option linter.unusedSimpArgs false
set_option linter.unusedVariables false
set_option maxRecDepth 100000

/-- Arcs add c times their weights to their places' numbers. -/
def addArcs (c : Int) (arcs : List Arc) (ch : List Int) : List Int := arcs.foldl (fun ch x => ch.set x.pl.toNat (ch.getD x.pl.toNat 0 + c * x.wt)) ch
theorem addArcs_snoc (c : Int) (arcs : List Arc) (x : Arc) (ch : List Int) : addArcs c (arcs ++ [x]) ch = (addArcs c arcs ch).set x.pl.toNat ((addArcs c arcs ch).getD x.pl.toNat 0 + c * x.wt) := by simp [addArcs]
/-- What a transition that occurs c times changes. -/
def addTr (c : Int) (t : Tr) (ch : List Int) : List Int := addArcs c t.outs (addArcs (-c) t.ins ch)
def addTrs : List Int → List Tr → List Int → List Int
  | c :: cs, t :: ts, ch => addTrs cs ts (addTr c t ch)
  | _, _, ch => ch
theorem addTrs_step (cs : List Int) (ts : List Tr) : ∀ (k : Nat) (c : Int) (t : Tr) (ch : List Int), cs[k]? = some c → ts[k]? = some t → addTrs (cs.take (k + 1)) (ts.take (k + 1)) ch = addTr c t (addTrs (cs.take k) (ts.take k) ch) := by
  intro k
  induction k generalizing cs ts with
  | zero =>
    intro c t ch hc ht
    cases cs <;> cases ts <;> simp_all [addTrs]
  | succ k ih =>
    intro c t ch hc ht
    cases cs with
    | nil => simp at hc
    | cons c0 cs =>
      cases ts with
      | nil => simp at ht
      | cons t0 ts => simpa [addTrs] using ih cs ts c t _ (by simpa using hc) (by simpa using ht)
/-- No number is too great. -/
def Small (n : Nat) (m : Nat) (ch : List Int) : Prop := ch.length = n ∧ ∀ x, x ∈ ch → -(524288 * (m : Int)) ≤ x ∧ x ≤ 524288 * (m : Int)
theorem Small.set_ {n m : Nat} {ch : List Int} (h : Small n m ch) (i : Nat) {v : Int} (h1 : -(524288 * ((m + 1 : Nat) : Int)) ≤ v) (h2 : v ≤ 524288 * ((m + 1 : Nat) : Int)) : Small n (m + 1) (ch.set i v) := by
  refine ⟨by rw [List.length_set]; exact h.1, fun x hx => ?_⟩
  rcases List.mem_or_eq_of_mem_set hx with hx | rfl
  · have := h.2 x hx
    exact ⟨by omega, by omega⟩
  · exact ⟨h1, h2⟩
theorem Small.more {n m m' : Nat} {ch : List Int} (h : Small n m ch) (hm : m ≤ m') : Small n m' ch := ⟨h.1, fun x hx => by have := h.2 x hx; omega⟩
theorem Small.get {n m : Nat} {ch : List Int} (h : Small n m ch) {i : Nat} {x : Int} (hx : ch[i]? = some x) : -(524288 * (m : Int)) ≤ x ∧ x ≤ 524288 * (m : Int) := h.2 x (List.mem_of_getElem? hx)

structure TransOk (init : List Int) (trs : List Tr) (l : List Int) : Prop where
  n : NetOk init trs
  w : WtOk l trs.length
  s : ∀ x, x ∈ addTrs l trs (List.replicate init.length 0) → x = 0

theorem trans1_c (x : Int) (w : World) : Calls Try.prog 56 #[.int .i64 x] w (Tells (x ≠ 0) w) := by
  go_enter Try.func56, Try.ntmps56
  go_wp2
  go_ret
  exact ⟨_, rfl, by simp, Below.refl _ _⟩
theorem BlkAt.kept {V W W' : World} {g : Nat} {T : TypeId} {cs : List Value} (h : BlkAt W g T cs) (hb : Below W.heap.size W W') : BlkAt W' g T cs := h.below hb h.lt

set_option maxHeartbeats 8000000 in
theorem TransitionFlow_c (init : List Int) (trs : List Tr) (A1 A2 : Option Addr) (c1 c2 : Nat) (AL : Option Addr) (cL : Nat) (l : List Int) (w : World) (h : NetAt w init trs A1 A2) (hL : IntsAt w AL l) (ll : l.length ≤ 140737488355328) :
    Calls Try.prog 20 #[.agg #[.slice A1 init.length c1, .slice A2 trs.length c2], .slice AL l.length cL] w (Tells (TransOk init trs l) w) := by
  have HX := Lib.hid h
  have HL := Lib.hid hL
  have l1 := h.l1
  have l2 := h.l2
  have W0 : Hid (Fro w.heap.size w (w.alloc (.cells #[.slice A1 init.length c1, .slice A2 trs.length c2] 57))) := (Fro.here w).alloc _
  have C1 : Hid (HasAt w.heap.size [.slice A1 init.length c1, .slice A2 trs.length c2] (w.alloc (.cells #[.slice A1 init.length c1, .slice A2 trs.length c2] 57))) := HasAt.new w _ _ rfl
  clear h hL
  go_enter Try.func20, Try.ntmps20
  go_wp2_with fail
  generalize hW : (w.alloc (.cells #[.slice A1 init.length c1, .slice A2 trs.length c2] 57)) = W at *
  clear hW
  refine (net_c init trs A1 A2 c1 c2 W (HX.out.below W0.out.b)).mono ?_
  intro e w1 hs
  rcases hs.no1 with ⟨rfl, S, hb⟩ | ⟨rfl, S, hb⟩
  · have R1 := Lib.hid (W0.out.next hb)
    clear hs hb
    go_wp2
    go_ret
    exact Tells.no (fun h => S.out h.n) R1.out.b
  have R1 := Lib.hid (W0.out.next hb)
  have D1 := Lib.hid (C1.out.below hb)
  clear hs hb W0 C1
  have q0 := D1.out.c 0 _ rfl
  have q1 := D1.out.c 1 _ rfl
  go_wp2_with fail
  refine (weights_c AL cL l trs.length w1 (HL.out.below IntE.stays R1.out.b) ll).mono ?_
  intro e w2 hs
  rcases hs.no1 with ⟨rfl, S2, hb⟩ | ⟨rfl, S2, hb⟩
  · have R2 := Lib.hid (R1.out.next hb)
    clear hs hb
    go_wp2
    go_ret
    exact Tells.no (fun h => S2.out h.w) R2.out.b
  have R2 := Lib.hid (R1.out.next hb)
  have D2 := Lib.hid (D1.out.below hb)
  clear hs hb q0 q1 D1 R1
  have q0 := D2.out.c 0 _ rfl
  have q1 := D2.out.c 1 _ rfl
  have hz0 := D2.out.z
  have WL : l.length ≤ 10 := by have := S2.out.len; have := S.out.l2; omega
  have WN := S.out.l1
  have WT := S.out.l2
  have hmk := make_run (P := Try.prog) 36 3 (.int .i64 0) 8 Try.underlying36 intInfo rfl init.length (by omega) (by omega)
  have R3 : Hid (Fro w.heap.size w (w2.alloc (.cells (Array.replicate init.length (.int .i64 0)) 3))) := R2.out.alloc _
  have D3 : Hid (HasAt w.heap.size [.slice A1 init.length c1, .slice A2 trs.length c2] (w2.alloc (.cells (Array.replicate init.length (.int .i64 0)) 3))) := D2.out.alloc _
  have G3 : Hid (BlkAt (w2.alloc (.cells (Array.replicate init.length (.int .i64 0)) 3)) w2.heap.size 3 ((List.replicate init.length 0).map (.int .i64))) := by
    have := BlkAt.new w2 3 (List.replicate init.length (.int .i64 0))
    simpa [Hid, List.map_replicate] using this
  go_wp2_with fail
  generalize hW : w2.alloc (.cells (Array.replicate init.length (.int .i64 0)) 3) = V at *
  generalize hg : w2.heap.size = g at *
  have hgz : w.heap.size ≤ g := by omega
  clear hW hg hmk D2 R2 q0 q1 hz0
  go_loopw [30] (fun i wr => ∃ (t : Nat) (ch : List Int), t ≤ trs.length ∧ i = .int .i64 t ∧ Hid (Fro w.heap.size w wr) ∧ Hid (BlkAt wr g 3 (ch.map (.int .i64))) ∧ Hid (ch = addTrs (l.take t) (trs.take t) (List.replicate init.length 0)) ∧ Hid (Small init.length (20 * t) ch)) (fun i _ => trs.length - (intOf i).toNat)
  case atStart => exact ⟨0, List.replicate init.length 0, by omega, rfl, R3, G3, by simp [Hid, addTrs], ⟨by simp, fun x hx => by have := List.eq_of_mem_replicate hx; omega⟩⟩
  case round =>
    obtain ⟨t, ch, ht, rfl, R4, G4, HCH, HSM⟩ := hrel
    clear R3 G3 D3
    by_cases hlt : t < trs.length
    · obtain ⟨x, hx⟩ : ∃ x, trs[t]? = some x := ⟨_, List.getElem?_eq_getElem hlt⟩
      obtain ⟨b, off, B1, d1, B2, d2, hA, hb, e0, e1, e2, a1, a2, k1, k2⟩ := TrsAt.get HX.out.t hx
      subst hA
      replace e0 := old_cell R4.out.b e0 hb
      replace e1 := old_cell R4.out.b e1 hb
      replace e2 := old_cell R4.out.b e2 hb
      replace hb := Nat.lt_of_lt_of_le hb R4.out.z
      have HTI : Hid (TrIs w x B1 B2) := ⟨a1, a2, k1, k2⟩
      obtain ⟨c, hc⟩ : ∃ c, l[t]? = some c := ⟨_, List.getElem?_eq_getElem (by have := S2.out.len; omega)⟩
      have HC := Lib.hid hc
      have HXX := Lib.hid hx
      obtain ⟨_, _, o1, o2⟩ := S.out.t x (List.mem_of_getElem? hx)
      obtain ⟨cr0, cr1⟩ := S2.out.r c (List.mem_of_getElem? hc)
      obtain ⟨ev, ins, outs⟩ := x
      dsimp only at *
      have n1 := o1.len
      have n2 := o2.len
      have O1 := Lib.hid o1
      have O2 := Lib.hid o2
      have tl : t < l.length := (List.getElem?_eq_some_iff.1 hc).1
      clear hx hc a1 a2 k1 k2 o1 o2
      have R5 : Hid (Fro w.heap.size w (wr.alloc (.cells #[.int .i64 ev, .slice B1 ins.length d1, .slice B2 outs.length d2] 63))) := R4.out.alloc _
      have G5 : Hid (BlkAt (wr.alloc (.cells #[.int .i64 ev, .slice B1 ins.length d1, .slice B2 outs.length d2] 63)) g 3 (ch.map (.int .i64))) := G4.out.alloc _
      have T5 : Hid (BlkAt (wr.alloc (.cells #[.int .i64 ev, .slice B1 ins.length d1, .slice B2 outs.length d2] 63)) wr.heap.size 63 [.int .i64 ev, .slice B1 ins.length d1, .slice B2 outs.length d2]) := BlkAt.new wr _ _
      have hgr : g < wr.heap.size := G4.out.lt
      have hwr : w.heap.size ≤ wr.heap.size := R4.out.z
      obtain ⟨wo, rfl⟩ : ∃ wo : World, wo = wr := ⟨_, rfl⟩
      go_wp2_with fail
      go_loopw [38] (fun j wx => ∃ (m : Nat) (ch1 : List Int), m ≤ ins.length ∧ j = .int .i64 m ∧ Hid (Fro w.heap.size w wx) ∧ Hid (BlkAt wx g 3 (ch1.map (.int .i64))) ∧ Hid (BlkAt wx wo.heap.size 63 [.int .i64 ev, .slice B1 ins.length d1, .slice B2 outs.length d2]) ∧ Hid (ch1 = addArcs (-c) (ins.take m) ch) ∧ Hid (Small init.length (20 * t + m) ch1)) (fun j _ => ins.length - (intOf j).toNat)
      case atStart => exact ⟨0, ch, by omega, rfl, R5, G5, T5, rfl, HSM⟩
      case round =>
        obtain ⟨m, ch1, hm, rfl, R6, G6, T6, H1, SM1⟩ := hrel
        clear R5 G5 T5
        by_cases hlt2 : m < ins.length
        · obtain ⟨y, hy⟩ : ∃ y, ins[m]? = some y := ⟨_, List.getElem?_eq_getElem hlt2⟩
          obtain ⟨p0, p1, _, w0, w1⟩ := O1.out m hlt2 y hy
          obtain ⟨bI, oI, hB1, hbI, f0, f1⟩ := ArcsAt.get (HTI.out.below R6.out.b).1 hy
          subst hB1
          obtain ⟨pl, wt⟩ := y
          dsimp only at p0 p1 w0 w1 f0 f1
          obtain ⟨p, rfl⟩ := Int.eq_ofNat_of_zero_le p0
          obtain ⟨y, hy1⟩ : ∃ y, ch1[p]? = some y := ⟨_, List.getElem?_eq_getElem (by have := SM1.out.1; omega)⟩
          obtain ⟨sm0, sm1⟩ := SM1.out.get hy1
          obtain ⟨bL, oL, hAL, hbL, eL⟩ := IntsAt.get (HL.out.below IntE.stays R6.out.b) HC.out
          subst hAL
          obtain ⟨u0, u1⟩ := mul_bound cr0 cr1 w0 w1
          have cy : wr.cell? ⟨g, p, none⟩ = some (.int .i64 y) := by rw [G6.out.cell, List.getElem?_map, hy1]; rfl
          have i1 : IntKind.i64.wrap (c * wt) = c * wt := IntWalk.i64_in _ (by omega)
          have i2 : IntKind.i64.wrap (y - c * wt) = y - c * wt := IntWalk.i64_in _ (by omega)
          have fr := G6.out.free p
          have t0 := T6.out.at1 0 _ rfl
          have t1 := T6.out.at1 1 _ rfl
          have hgr6 := G6.out.lt
          have htr6 := T6.out.lt
          have AN : Hid (BlkAt (wr.alloc (.cells #[.int .i64 p, .int .i64 wt] 121)) wr.heap.size 121 [.int .i64 p, .int .i64 wt]) := BlkAt.new wr _ _
          have HY : Hid (ins[m]? = some ⟨(p : Int), wt⟩) := hy
          have HY1 := Lib.hid hy1
          clear hy hy1
          go_wp2_with fail
          go_region
          go_wp2
          go_roundw
          case rel => exact ⟨m + 1, ch1.set p (y - c * wt), by omega, by go_num, ((R6.out.setCell (by omega) _).alloc _).drew, by rw [Hid, List.map_set]; exact (G6.out.set_ p _).alloc _, (T6.out.far (Nat.ne_of_gt hgr) _).alloc _,
            by rw [Hid, List.take_add_one, HY.out]; show _ = addArcs (-c) (ins.take m ++ [_]) ch; rw [addArcs_snoc, ← H1.out]; simp [List.getD_eq_getElem?_getD, HY1.out, Int.neg_mul, Int.sub_eq_add_neg], SM1.out.set_ p (by omega) (by omega)⟩
          case measure => simp [intOf]; omega
        · obtain rfl : m = ins.length := by omega
          have CH2 : Hid (ch1 = addArcs (-c) ins ch) := by have := H1.out; rw [List.take_length] at this; exact this
          have t2 := T6.out.at1 2 _ rfl
          have htr6 := T6.out.lt
          clear H1
          go_wp2_with fail
          go_loopw [60] (fun j wx => ∃ (m : Nat) (ch2 : List Int), m ≤ outs.length ∧ j = .int .i64 m ∧ Hid (Fro w.heap.size w wx) ∧ Hid (BlkAt wx g 3 (ch2.map (.int .i64))) ∧ Hid (ch2 = addArcs c (outs.take m) ch1) ∧ Hid (Small init.length (20 * t + ins.length + m) ch2)) (fun j _ => outs.length - (intOf j).toNat)
          case atStart => exact ⟨0, ch1, by omega, rfl, R6, G6, rfl, SM1⟩
          case round =>
            obtain ⟨m, ch2, hm2, rfl, R7, G7, H2, SM2⟩ := hrel
            clear R6 G6 T6 SM1 t2 htr6
            by_cases hlt3 : m < outs.length
            · obtain ⟨y, hy⟩ : ∃ y, outs[m]? = some y := ⟨_, List.getElem?_eq_getElem hlt3⟩
              obtain ⟨p0, p1, _, w0, w1⟩ := O2.out m hlt3 y hy
              obtain ⟨bI, oI, hB1, hbI, f0, f1⟩ := ArcsAt.get (HTI.out.below R7.out.b).2.1 hy
              subst hB1
              obtain ⟨pl, wt⟩ := y
              dsimp only at p0 p1 w0 w1 f0 f1
              obtain ⟨p, rfl⟩ := Int.eq_ofNat_of_zero_le p0
              obtain ⟨y, hy1⟩ : ∃ y, ch2[p]? = some y := ⟨_, List.getElem?_eq_getElem (by have := SM2.out.1; omega)⟩
              obtain ⟨sm0, sm1⟩ := SM2.out.get hy1
              obtain ⟨bL, oL, hAL, hbL, eL⟩ := IntsAt.get (HL.out.below IntE.stays R7.out.b) HC.out
              subst hAL
              obtain ⟨u0, u1⟩ := mul_bound cr0 cr1 w0 w1
              have cy : wr.cell? ⟨g, p, none⟩ = some (.int .i64 y) := by rw [G7.out.cell, List.getElem?_map, hy1]; rfl
              have i1 : IntKind.i64.wrap (c * wt) = c * wt := IntWalk.i64_in _ (by omega)
              have i2 : IntKind.i64.wrap (y + c * wt) = y + c * wt := IntWalk.i64_in _ (by omega)
              have fr := G7.out.free p
              have hgr6 := G7.out.lt
              have HY : Hid (outs[m]? = some ⟨(p : Int), wt⟩) := hy
              have HY1 := Lib.hid hy1
              clear hy hy1
              go_wp2_with fail
              go_region
              go_wp2
              go_roundw
              case rel => exact ⟨m + 1, ch2.set p (y + c * wt), by omega, by go_num, ((R7.out.setCell (by omega) _).alloc _).drew, by rw [Hid, List.map_set]; exact (G7.out.set_ p _).alloc _,
                by rw [Hid, List.take_add_one, HY.out]; show _ = addArcs c (outs.take m ++ [_]) ch1; rw [addArcs_snoc, ← H2.out]; simp [List.getD_eq_getElem?_getD, HY1.out], SM2.out.set_ p (by omega) (by omega)⟩
              case measure => simp [intOf]; omega
            · obtain rfl : m = outs.length := by omega
              go_wp2
              go_roundw
              case rel => exact ⟨t + 1, ch2, by omega, by go_num, R7, G7, by
                rw [Hid, addTrs_step l trs t c ⟨ev, ins, outs⟩ _ HC.out HXX.out, ← HCH.out]
                unfold addTr
                rw [← CH2.out]
                have := H2.out
                rw [List.take_length] at this
                exact this, SM2.out.more (by omega)⟩
              case measure => simp [intOf]; omega
    · obtain rfl : t = trs.length := by omega
      have CHF : Hid (ch = addTrs l trs (List.replicate init.length 0)) := by
        have := HCH.out
        rw [List.take_length, List.take_of_length_le (by have := S2.out.len; omega)] at this
        exact this
      have KC := containsI_c 56 #[] (enters_of Try.func56 (by kernel_rfl) rfl) (fun x => x ≠ 0) (some ⟨g, 0, none⟩) init.length ch wr (SlAt.of_blk (enc := Value.int .i64) (T := 3) G4.out) (by have := HSM.out.1; omega) (fun W x _ _ => by simpa using trans1_c x W)
      rw [HSM.out.1] at KC
      have HKC := Lib.hid KC
      clear KC
      go_wp2_with fail
      refine HKC.out.mono ?_
      rintro e w5 ⟨r, rfl, hr, hb⟩
      have R5 := Lib.hid (R4.out.next hb)
      have HR := Lib.hid hr
      clear hr hb
      cases r
      · go_wp2
        go_ret
        exact Tells.yes ⟨S.out, S2.out, fun x hx => by
          rw [← CHF.out] at hx
          by_cases h : x = 0
          · exact h
          · exact absurd (HR.out.2 ⟨x, hx, h⟩) (by simp)⟩ R5.out.b
      · go_wp2
        go_ret
        exact Tells.no (fun h => by
          obtain ⟨x, hx, hn⟩ := HR.out.1 (by simp)
          rw [CHF.out] at hx
          exact hn (h.s x hx)) R5.out.b
end Go.Proofs.Ytkbmenpggiojeaa
