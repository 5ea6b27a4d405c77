/-
  CheckerFlows: the walk of the law.
-/
import Derived.Test.YtkbmenpggiojeaaFg
import Derived.Test.YtkbmenpggiojeaaFf
import Derived.Test.YtkbmenpggiojeaaMc
import Derived.Deep.CutBlock
import Derived.Deep.DeepCutAuto
namespace Go.Proofs.Ytkbmenpggiojeaa
open Go.RowKit
set_option linter.unusedSimpArgs false
set_option linter.unusedVariables false
set_option maxRecDepth 100000

theorem weight_quiet (A : Option Addr) (c : Nat) (l : List Arc) (p : Int) (w : World) (n : Nat) (h : ArcsAt w A l) (hl : l.length ≤ 140737488355328) :
    Calls Try.prog 18 #[.slice A l.length c, .int .i64 p] (w.drewN n) fun e w'' => e = .returned (.int .i64 (wOf l p)) ∧ ∃ m, w'' = w.drewN m :=
  Calls.quiet_of_same ((weight_c A c l p (w.drewN n) (h.below (PlR.ok _).stays ((Below.refl _ _).draws n)) hl).mono fun _ _ ⟨h1, h2⟩ => ⟨h1, h2.symm⟩)
theorem flow_quiet (A : Option Addr) (c : Nat) (l : List Int) (m : Nat) (w : World) (n : Nat) (h : IntsAt w A l) (hl : l.length ≤ 140737488355328) (b : Bool) (hb : b = true ↔ WtOk l m) :
    Calls Try.prog 17 #[.slice A l.length c, .int .i64 m] (w.drewN n) fun e w'' => e = .returned (.bool b) ∧ ∃ m, w'' = w.drewN m :=
  Calls.quiet_of_same ((flow_c A c l m (w.drewN n) (h.below IntE.stays ((Below.refl _ _).draws n)) hl).mono fun _ _ ⟨r, h1, h2, h3⟩ => ⟨by rw [h1]; congr 2; rw [Bool.eq_iff_iff, h2, hb], h3.symm⟩)
theorem HasAt.rng {b o : Nat} {l cs : List Value} {w : World} (h : HasAt b l w) (hs : ∀ (j : Nat) v, cs[j]? = some v → l[o + j]? = some v) : w.rangeAt b o cs := fun j v hv => h.c _ _ (hs j v hv)
theorem bool_of (Q : Prop) : ∃ b : Bool, b = true ↔ Q := by
  by_cases h : Q
  · exact ⟨true, by simp [h]⟩
  · exact ⟨false, by simp [h]⟩

set_option maxHeartbeats 8000000 in
theorem flows_c (cs : List Value) (AW AC : Option Addr) (cW cC : Nat) (ws co : List Int) (w : World) (hc : U8s cs 37) (hw : IntsAt w AW ws) (hco : IntsAt w AC co) (lw : ws.length ≤ maxLen) (lc : co.length ≤ maxLen) :
    Calls Try.prog 6 #[.agg cs.toArray, .slice AW ws.length cW, .slice AC co.length cC] w (Yes true w) := by
  have HC := Lib.hid hc
  have HW := Lib.hid hw
  have HO := Lib.hid hco
  unfold maxLen at lw lc
  have W0 : Hid (Fro w.heap.size w (w.alloc (.cells cs.toArray 54))) := (Fro.here w).alloc _
  have C0 : Hid (HasAt w.heap.size cs (w.alloc (.cells cs.toArray 54))) := HasAt.new w _ _ rfl
  clear hc hw hco
  go_enter Try.func6, Try.ntmps6
  go_wp2_with fail
  generalize hW : w.alloc (.cells cs.toArray 54) = W at *
  clear hW
  refine (known_c _).mono ?_
  rintro e w1 ⟨rfl, hb⟩
  have R1 := Lib.hid (W0.out.next hb)
  have C1 := Lib.hid (C0.out.below hb)
  clear hb W0 C0
  by_cases hL : ws.length ≤ 8 ∧ co.length ≤ 8
  rotate_left
  · go_wp2_with fail
    all_goals first
      | (exfalso; omega)
      | (refine (known_c _).mono ?_; rintro e w5 ⟨rfl, hb⟩; have R5 := Lib.hid (R1.out.next hb); clear hb; go_wp2; go_ret; exact ⟨rfl, R5.out.b⟩)
  obtain ⟨l1, l2⟩ := hL
  have s1 : decide ((8 : Int) < (ws.length : Int)) = false := by simp; omega
  have s2 : decide ((8 : Int) < (co.length : Int)) = false := by simp; omega
  have SZ : Hid ((Try.prog.info? 54).map (·.size) = some cs.length) := by rw [Hid, HC.out.l]; kernel_rfl
  go_wp2_with (refine wpList_load_mid rfl 54 (.tmp 3) rfl w.heap.size 0 rfl cs _ (C1.out.rng (fun j v hv => by rw [Nat.zero_add]; exact hv)) Try.underlying54 rfl SZ.out ?_)
  refine (make47_c cs w1 HC.out).mono ?_
  rintro e w2 ⟨init, trs, A1, A2, c1, c2, rfl, hS, hN, hb⟩
  have SN := Lib.hid hS
  have NT := Lib.hid hN
  have R2 := Lib.hid (R1.out.next hb)
  have n1 := hS.n1
  have t1 := hS.t1
  have n0 := hS.n0
  clear hb hS hN R1 C1 SZ
  have R3 : Hid (Fro w.heap.size w (w2.alloc (.cells #[.slice A1 init.length c1, .slice A2 trs.length c2] 57))) := R2.out.alloc _
  have N3 : Hid (HasAt w2.heap.size [.slice A1 init.length c1, .slice A2 trs.length c2] (w2.alloc (.cells #[.slice A1 init.length c1, .slice A2 trs.length c2] 57))) := HasAt.new w2 _ _ rfl
  have T3 : Hid (NetAt (w2.alloc (.cells #[.slice A1 init.length c1, .slice A2 trs.length c2] 57)) init trs A1 A2) := NT.out.below (Below.new _ _)
  obtain ⟨b1, hb1⟩ := bool_of (WtOk ws init.length)
  obtain ⟨b2, hb2⟩ := bool_of (WtOk co trs.length)
  have HB1 := Lib.hid hb1
  have HB2 := Lib.hid hb2
  clear hb1 hb2
  go_wp2_with fail
  generalize hW : w2.alloc (.cells #[.slice A1 init.length c1, .slice A2 trs.length c2] 57) = V at *
  generalize hbn : w2.heap.size = bn at *
  clear hW NT R2 hbn
  have Q1 := Lib.hid (fun k => flow_quiet AW cW ws init.length V k (HW.out.below IntE.stays R3.out.b) (by omega) b1 HB1.out)
  have Q2 := Lib.hid (fun k => flow_quiet AC cC co trs.length V k (HO.out.below IntE.stays R3.out.b) (by omega) b2 HB2.out)
  have q0 := N3.out.c 0 _ rfl
  have q1 := N3.out.c 1 _ rfl
  go_quiet (first | (with_reducible exact Q1.out _) | (with_reducible exact Q2.out _))
  have R4 := Lib.hid (R3.out.draws nq)
  have N4 := Lib.hid (N3.out.below ((Below.refl _ _).draws nq))
  have T4 := Lib.hid (T3.out.below ((Below.refl _ _).draws nq))
  generalize hW : V.drewN nq = V4 at *
  clear hW q0 q1 Q1 Q2 N3 T3 R3
  have WV := Lib.hid (Fro.here V4)
  go_upto_block 0 with fail
  go_cut [8] (fun s8 wx => ∃ b : Bool, s8 = .bool b ∧ Hid (b = true ↔ PlaceOk init trs ws) ∧ Hid (Fro V4.heap.size V4 wx))
  case first =>
    go_wp2_with fail
    go_loopw [8, 10] (fun s8 i wr => ∃ (t : Nat) (b : Bool), t ≤ trs.length ∧ i = .int .i64 t ∧ s8 = .bool b ∧ Hid (Fro V4.heap.size V4 wr) ∧ Hid (b = true ↔ WtOk ws init.length ∧ ∀ (j : Nat) x, j < t → trs[j]? = some x → sumP ws x init.length = 0)) (fun _ i _ => trs.length - (intOf i).toNat)
    case atStart => exact ⟨0, b1, by omega, rfl, rfl, WV.out, by rw [Hid, HB1.out]; exact ⟨fun h => ⟨h, fun j x hj => absurd hj (by omega)⟩, fun h => h.1⟩⟩
    case round =>
      obtain ⟨t, b, ht, rfl, rfl, BW, HB⟩ := hrel
      have N5 := Lib.hid (N4.out.below BW.out.b)
      have R5 := Lib.hid (R4.out.next BW.out.b)
      have q1 := N5.out.c 1 _ rfl
      have hz0 := N5.out.z
      by_cases hlt : t < trs.length
      rotate_left
      · obtain rfl : t = trs.length := by omega
        have hlt' : decide ((trs.length : Int) < (trs.length : Int)) = false := by simp
        go_wp2_with fail
        go_meet
        exact ⟨b, rfl, by
          rw [Hid, HB.out, place_iff SN.out.ok]
          exact ⟨fun h => ⟨h.1, fun x hx => by
            obtain ⟨j, hj, rfl⟩ := List.mem_iff_getElem.1 hx
            exact h.2 j _ hj (List.getElem?_eq_getElem hj)⟩, fun h => ⟨h.1, fun j x _ hx => h.2 x (List.mem_of_getElem? hx)⟩⟩, BW.out⟩
      have hlt' : decide ((t : Int) < (trs.length : Int)) = true := by simp; omega
      cases b
      · go_wp2_with fail
        go_meet
        exact ⟨false, rfl, by
          rw [Hid, place_iff SN.out.ok]
          exact ⟨fun h => absurd h (by simp), fun h => HB.out.2 ⟨h.1, fun j x _ hx => h.2 x (List.mem_of_getElem? hx)⟩⟩, BW.out⟩
      obtain ⟨wk, hprev⟩ := HB.out.1 (by simp)
      have WK := Lib.hid wk
      have HPV := Lib.hid hprev
      have wl := wk.len
      obtain ⟨x, hx⟩ : ∃ x, trs[t]? = some x := ⟨_, List.getElem?_eq_getElem hlt⟩
      have HX := Lib.hid hx
      obtain ⟨b, off, B1, d1, B2, d2, hA, hb, e0, e1, e2, a1, a2, k1, k2⟩ := TrsAt.get T4.out.t hx
      subst hA
      have hwl : ws.length ≤ init.length := by omega
      have hwl2 : init.length ≤ ws.length := by omega
      have E1 : Hid (∀ V, Fro V4.heap.size V4 V → V.cell? ⟨b, off + t * 3 + 1, none⟩ = some (.slice B1 x.ins.length d1)) := fun V h => old_cell h.b e1 hb
      have E2 : Hid (∀ V, Fro V4.heap.size V4 V → V.cell? ⟨b, off + t * 3 + 2, none⟩ = some (.slice B2 x.outs.length d2)) := fun V h => old_cell h.b e2 hb
      have TI : Hid (∀ V, Fro V4.heap.size V4 V → TrIs V x B1 B2) := fun V h => TrIs.below ⟨a1, a2, k1, k2⟩ h.b
      obtain ⟨_, _, o1, o2⟩ := SN.out.ok.t x (List.mem_of_getElem? hx)
      have O1 := Lib.hid o1
      have O2 := Lib.hid o2
      clear hx wk hprev wl e0 e1 e2 a1 a2 k1 k2 o1 o2 HB
      go_wp2_with fail
      go_loopw [11, 12] (fun s i wr => ∃ (k : Nat) (y : Int), k ≤ init.length ∧ i = .int .i64 k ∧ s = .int .i64 y ∧ Hid (Fro V4.heap.size V4 wr) ∧ Hid (y = sumP ws x k) ∧ -(524288 * (k : Int)) ≤ y ∧ y ≤ 524288 * (k : Int)) (fun _ i _ => init.length - (intOf i).toNat)
      case atStart => exact ⟨0, 0, by omega, rfl, rfl, BW.out, rfl, by omega, by omega⟩
      case round =>
        obtain ⟨k, y, hk, rfl, rfl, BX, HY, hy0, hy1⟩ := hrel
        clear q1 hz0 N5 R5 BW
        have N6 := Lib.hid (N4.out.below BX.out.b)
        have R6 := Lib.hid (R4.out.next BX.out.b)
        have q0 := N6.out.c 0 _ rfl
        have q1 := N6.out.c 1 _ rfl
        have hz0 := N6.out.z
        by_cases hkl : k < init.length
        · obtain ⟨z, hz⟩ : ∃ z, ws[k]? = some z := ⟨_, List.getElem?_eq_getElem (by omega)⟩
          obtain ⟨bW, oW, hAW, hbW, eW⟩ := IntsAt.get (HW.out.below IntE.stays R6.out.b) hz
          subst hAW
          have e1 := E1.out _ BX.out
          have e2 := E2.out _ BX.out
          obtain ⟨z0, z1⟩ := WK.out.r z (List.mem_of_getElem? hz)
          obtain ⟨f0, f1⟩ := wOf_range O2.out (k : Int)
          obtain ⟨g0, g1⟩ := wOf_range O1.out (k : Int)
          have HS : Hid (sumP ws x (k + 1) = y + z * (wOf x.outs k - wOf x.ins k)) := by
            have := HY.out
            show sumP ws x k + ws.getD k 0 * _ = _
            rw [← this, List.getD_eq_getElem?_getD, hz]; rfl
          have QO := Lib.hid (fun j => weight_quiet B2 d2 x.outs k wr j (TI.out _ BX.out).2.1 (TI.out _ BX.out).2.2.2)
          have QI := Lib.hid (fun j => weight_quiet B1 d1 x.ins k wr j (TI.out _ BX.out).1 (TI.out _ BX.out).2.2.1)
          clear hz
          generalize wOf x.outs (k : Int) = do_ at *
          generalize wOf x.ins (k : Int) = di at *
          obtain ⟨m0, m1⟩ := mul_bound2 z0 z1 (show -8 ≤ do_ - di by omega) (by omega)
          have i1 : IntKind.i64.wrap (do_ - di) = do_ - di := IntWalk.i64_in _ (by omega)
          have i2 : IntKind.i64.wrap (z * (do_ - di)) = z * (do_ - di) := IntWalk.i64_in _ (by omega)
          have i3 : IntKind.i64.wrap (y + z * (do_ - di)) = y + z * (do_ - di) := IntWalk.i64_in _ (by omega)
          go_wp2_with fail
          go_quiet (first | (with_reducible exact QO.out _) | (with_reducible exact QI.out _))
          go_wp2
          go_roundw
          case rel => exact ⟨k + 1, _, by omega, by go_num, rfl, BX.out.draws _, HS.out.symm, by omega, by omega⟩
          case measure => simp [intOf]; omega
        · obtain rfl : k = init.length := by omega
          obtain ⟨b0, hb0⟩ : ∃ b0 : Bool, (y == 0) = b0 := ⟨_, rfl⟩
          have HB0 : Hid (b0 = true ↔ y = 0) := by rw [Hid, ← hb0]; simp
          go_wp2
          go_roundw
          case rel => exact ⟨t + 1, b0, by omega, by go_num, rfl, BX.out, by
            rw [Hid, HB0.out, HY.out]
            constructor
            · refine fun h => ⟨WK.out, fun j x' hj hx' => ?_⟩
              by_cases e : j = t
              · subst e; rw [HX.out] at hx'; cases hx'; exact h
              · exact HPV.out j x' (by omega) hx'
            · exact fun h => h.2 t x (by omega) HX.out⟩
          case measure => simp [intOf]; omega
  case rest =>
    obtain ⟨p1, rfl, HP1, BV⟩ := hcut
    have N5 := Lib.hid (N4.out.below BV.out.b)
    have R5 := Lib.hid (R4.out.next BV.out.b)
    have T5 := Lib.hid (T4.out.below BV.out.b)
    clear N4 R4 T4 WV BV
    have WV := Lib.hid (Fro.here wc)
    go_upto_block 4 with fail
    go_cut [9] (fun s9 wx => ∃ b : Bool, s9 = .bool b ∧ Hid (b = true ↔ TransOk init trs co) ∧ Hid (Fro wc.heap.size wc wx))
    case first =>
      go_wp2_with fail
      go_loopw [9, 13] (fun s9 i wr => ∃ (t : Nat) (b : Bool), t ≤ init.length ∧ i = .int .i64 t ∧ s9 = .bool b ∧ Hid (Fro wc.heap.size wc wr) ∧ Hid (b = true ↔ WtOk co trs.length ∧ ∀ j, j < t → sumTr co trs j = 0)) (fun _ i _ => init.length - (intOf i).toNat)
      case atStart => exact ⟨0, b2, by omega, rfl, rfl, WV.out, by rw [Hid, HB2.out]; exact ⟨fun h => ⟨h, fun j hj => absurd hj (by omega)⟩, fun h => h.1⟩⟩
      case round =>
        obtain ⟨t, b, ht, rfl, rfl, BW, HB⟩ := hrel
        have N6 := Lib.hid (N5.out.below BW.out.b)
        have q0 := N6.out.c 0 _ rfl
        have q1 := N6.out.c 1 _ rfl
        have hz0 := N6.out.z
        by_cases hlt : t < init.length
        rotate_left
        · obtain rfl : t = init.length := by omega
          have hlt' : decide ((init.length : Int) < (init.length : Int)) = false := by simp
          go_wp2_with fail
          go_meet
          exact ⟨b, rfl, by rw [Hid, HB.out, trans_iff SN.out.ok], BW.out⟩
        have hlt' : decide ((t : Int) < (init.length : Int)) = true := by simp; omega
        cases b
        · go_wp2_with fail
          go_meet
          exact ⟨false, rfl, by
            rw [Hid, trans_iff SN.out.ok]
            exact ⟨fun h => absurd h (by simp), fun h => HB.out.2 ⟨h.1, fun j hj => h.2 j (by omega)⟩⟩, BW.out⟩
        obtain ⟨wk, hprev⟩ := HB.out.1 (by simp)
        have WK := Lib.hid wk
        have HPV := Lib.hid hprev
        have wl := wk.len
        have hwl : co.length ≤ trs.length := by omega
        have hwl2 : trs.length ≤ co.length := by omega
        clear wk hprev wl HB
        go_wp2_with fail
        go_loopw [14, 15] (fun s i wr => ∃ (k : Nat) (y : Int), k ≤ trs.length ∧ i = .int .i64 k ∧ s = .int .i64 y ∧ Hid (Fro wc.heap.size wc wr) ∧ Hid (y = sumTr (co.take k) (trs.take k) t) ∧ -(524288 * (k : Int)) ≤ y ∧ y ≤ 524288 * (k : Int)) (fun _ i _ => trs.length - (intOf i).toNat)
        case atStart => exact ⟨0, 0, by omega, rfl, rfl, BW.out, by simp [Hid, sumTr], by omega, by omega⟩
        case round =>
          obtain ⟨k, y, hk, rfl, rfl, BX, HY, hy0, hy1⟩ := hrel
          clear q1 q0 hz0 N6 BW
          have N6 := Lib.hid (N5.out.below BX.out.b)
          have R6 := Lib.hid (R5.out.next BX.out.b)
          have q1 := N6.out.c 1 _ rfl
          have hz0 := N6.out.z
          by_cases hkl : k < trs.length
          · obtain ⟨x, hx⟩ : ∃ x, trs[k]? = some x := ⟨_, List.getElem?_eq_getElem hkl⟩
            obtain ⟨b, off, B1, d1, B2, d2, hA, hb, e0, e1, e2, a1, a2, k1, k2⟩ := TrsAt.get (T5.out.below BX.out.b).t hx
            subst hA
            obtain ⟨z, hz⟩ : ∃ z, co[k]? = some z := ⟨_, List.getElem?_eq_getElem (by omega)⟩
            obtain ⟨bW, oW, hAW, hbW, eW⟩ := IntsAt.get (HO.out.below IntE.stays R6.out.b) hz
            subst hAW
            obtain ⟨_, _, o1, o2⟩ := SN.out.ok.t x (List.mem_of_getElem? hx)
            obtain ⟨z0, z1⟩ := WK.out.r z (List.mem_of_getElem? hz)
            obtain ⟨f0, f1⟩ := wOf_range o2 (t : Int)
            obtain ⟨g0, g1⟩ := wOf_range o1 (t : Int)
            have HS : Hid (sumTr (co.take (k + 1)) (trs.take (k + 1)) t = y + z * (wOf x.outs t - wOf x.ins t)) := by rw [Hid, sumTr_step t co trs k z x hz hx, ← HY.out]
            have QO := Lib.hid (fun j => weight_quiet B2 d2 x.outs t wr j a2 k2)
            have QI := Lib.hid (fun j => weight_quiet B1 d1 x.ins t wr j a1 k1)
            clear hx hz o1 o2 a1 a2 k1 k2 e0
            generalize wOf x.outs (t : Int) = do_ at *
            generalize wOf x.ins (t : Int) = di at *
            obtain ⟨m0, m1⟩ := mul_bound2 z0 z1 (show -8 ≤ do_ - di by omega) (by omega)
            have i1 : IntKind.i64.wrap (do_ - di) = do_ - di := IntWalk.i64_in _ (by omega)
            have i2 : IntKind.i64.wrap (z * (do_ - di)) = z * (do_ - di) := IntWalk.i64_in _ (by omega)
            have i3 : IntKind.i64.wrap (y + z * (do_ - di)) = y + z * (do_ - di) := IntWalk.i64_in _ (by omega)
            go_wp2_with fail
            go_quiet (first | (with_reducible exact QO.out _) | (with_reducible exact QI.out _))
            go_wp2
            go_roundw
            case rel => exact ⟨k + 1, _, by omega, by go_num, rfl, BX.out.draws _, HS.out.symm, by omega, by omega⟩
            case measure => simp [intOf]; omega
          · obtain rfl : k = trs.length := by omega
            obtain ⟨b0, hb0⟩ : ∃ b0 : Bool, (y == 0) = b0 := ⟨_, rfl⟩
            have HB0 : Hid (b0 = true ↔ y = 0) := by rw [Hid, ← hb0]; simp
            have HYF : Hid (y = sumTr co trs t) := by
              have := HY.out
              rw [List.take_length, List.take_of_length_le (by omega)] at this
              exact this
            go_wp2
            go_roundw
            case rel => exact ⟨t + 1, b0, by omega, by go_num, rfl, BX.out, by
              rw [Hid, HB0.out, HYF.out]
              constructor
              · refine fun h => ⟨WK.out, fun j hj => ?_⟩
                by_cases e : j = t
                · subst e; exact h
                · exact HPV.out j (by omega)
              · exact fun h => h.2 t (by omega)⟩
            case measure => simp [intOf]; omega
    case rest =>
      obtain ⟨p2, rfl, HP2, BV⟩ := hcut
      have N6 := Lib.hid (N5.out.below BV.out.b)
      have R6 := Lib.hid (R5.out.next BV.out.b)
      have T6 := Lib.hid (T5.out.below BV.out.b)
      clear N5 R5 T5 WV BV
      have q0 := N6.out.c 0 _ rfl
      have q1 := N6.out.c 1 _ rfl
      have hz0 := N6.out.z
      have R7 : Hid (Fro w.heap.size w ((wc.alloc (.cells #[.int .i64 (-1)] 3)).alloc (.cells #[.slice (some ⟨wc.heap.size, 0, none⟩) 1 1, .slice A2 trs.length c2] 57))) := (R6.out.alloc _).alloc _
      have N7 : Hid (HasAt bn [.slice A1 init.length c1, .slice A2 trs.length c2] ((wc.alloc (.cells #[.int .i64 (-1)] 3)).alloc (.cells #[.slice (some ⟨wc.heap.size, 0, none⟩) 1 1, .slice A2 trs.length c2] 57))) := (N6.out.alloc _).alloc _
      have T7 : Hid (NetAt ((wc.alloc (.cells #[.int .i64 (-1)] 3)).alloc (.cells #[.slice (some ⟨wc.heap.size, 0, none⟩) 1 1, .slice A2 trs.length c2] 57)) init trs A1 A2) := T6.out.below ((Below.new _ _).alloc (by simp) _)
      have I7 : Hid (IntsAt ((wc.alloc (.cells #[.int .i64 (-1)] 3)).alloc (.cells #[.slice (some ⟨wc.heap.size, 0, none⟩) 1 1, .slice A2 trs.length c2] 57)) (some ⟨wc.heap.size, 0, none⟩) [-1]) :=
        SlAt.below (E := IntE) (SlAt.of_blk (enc := Value.int .i64) (T := 3) (l := [-1]) (BlkAt.new wc 3 [.int .i64 (-1)])) IntE.stays (Below.new _ _)
      have M7 : Hid (HasAt (wc.heap.size + 1) [.slice (some ⟨wc.heap.size, 0, none⟩) 1 1, .slice A2 trs.length c2] ((wc.alloc (.cells #[.int .i64 (-1)] 3)).alloc (.cells #[.slice (some ⟨wc.heap.size, 0, none⟩) 1 1, .slice A2 trs.length c2] 57))) := HasAt.new _ _ _ (by simp)
      have BAD : Hid (¬ NetOk [-1] trs) := fun h => by have := (h.i (-1) (by simp)).1; omega
      go_wp2_with fail
      generalize hW : ((wc.alloc (.cells #[.int .i64 (-1)] 3)).alloc (.cells #[.slice (some ⟨wc.heap.size, 0, none⟩) 1 1, .slice A2 trs.length c2] 57)) = V7 at *
      generalize hg : wc.heap.size = g at *
      clear hW N6 T6 q0 q1 hz0 R6 hg
      refine (PlaceFlow_c init trs A1 A2 c1 c2 AW cW ws V7 T7.out (HW.out.below IntE.stays R7.out.b) (by omega)).mono ?_
      rintro e w8 ⟨r8, rfl, hr, hb⟩
      obtain rfl : r8 = p1 := by rw [Bool.eq_iff_iff, hr, HP1.out]
      have R8 := Lib.hid (R7.out.next hb)
      have N8 := Lib.hid (N7.out.below hb)
      have T8 := Lib.hid (T7.out.below hb)
      have I8 := Lib.hid (I7.out.below IntE.stays hb)
      have M8 := Lib.hid (M7.out.below hb)
      have e8 : (r8 == r8) = true := by simp
      clear hr hb R7 N7 T7 I7 M7 HP1
      have q0 := N8.out.c 0 _ rfl
      have q1 := N8.out.c 1 _ rfl
      go_wp2_with fail
      refine (TransitionFlow_c init trs A1 A2 c1 c2 AC cC co w8 T8.out (HO.out.below IntE.stays R8.out.b) (by omega)).mono ?_
      rintro e w9 ⟨r9, rfl, hr, hb⟩
      obtain rfl : r9 = p2 := by rw [Bool.eq_iff_iff, hr, HP2.out]
      have R9 := Lib.hid (R8.out.next hb)
      have T9 := Lib.hid (T8.out.below hb)
      have I9 := Lib.hid (I8.out.below IntE.stays hb)
      have M9 := Lib.hid (M8.out.below hb)
      have e9 : (r9 == r9) = true := by simp
      clear hr hb R8 N8 T8 I8 M8 HP2 q0 q1
      have q0 := M9.out.c 0 _ rfl
      have q1 := M9.out.c 1 _ rfl
      have hz := M9.out.z
      have R10 : Hid (Fro w.heap.size w (w9.alloc (.cells #[.int .i64 1] 3))) := R9.out.alloc _
      have T10 : Hid (NetAt (w9.alloc (.cells #[.int .i64 1] 3)) [-1] trs (some ⟨g, 0, none⟩) A2) := ⟨I9.out.below IntE.stays (Below.new _ _), (T9.out.below (Below.new _ _)).t, by simp, T9.out.l2⟩
      have I10 : Hid (IntsAt (w9.alloc (.cells #[.int .i64 1] 3)) (some ⟨w9.heap.size, 0, none⟩) [1]) := SlAt.of_blk (enc := Value.int .i64) (T := 3) (l := [1]) (BlkAt.new w9 3 [.int .i64 1])
      have M10 : Hid (HasAt (g + 1) _ (w9.alloc (.cells #[.int .i64 1] 3))) := M9.out.alloc _
      go_wp2_with fail
      refine (PlaceFlow_c [-1] trs (some ⟨g, 0, none⟩) A2 1 c2 (some ⟨w9.heap.size, 0, none⟩) 1 [1] _ T10.out I10.out (by simp)).mono ?_
      intro e w11 hs
      obtain ⟨rfl, hb⟩ := hs.no2 (fun h => BAD.out h.n)
      have R11 := Lib.hid (R10.out.next hb)
      have T11 := Lib.hid (T10.out.below hb)
      have M11 := Lib.hid (M10.out.below hb)
      clear hs hb q0 q1 hz
      have q0 := M11.out.c 0 _ rfl
      have q1 := M11.out.c 1 _ rfl
      go_wp2_with fail
      refine (TransitionFlow_c [-1] trs (some ⟨g, 0, none⟩) A2 1 c2 AC cC co w11 T11.out (HO.out.below IntE.stays R11.out.b) (by omega)).mono ?_
      intro e w12 hs
      obtain ⟨rfl, hb⟩ := hs.no2 (fun h => BAD.out h.n)
      have R12 := Lib.hid (R11.out.next hb)
      clear hs hb
      go_wp2
      go_ret
      exact ⟨rfl, R12.out.b⟩
end Go.Proofs.Ytkbmenpggiojeaa
