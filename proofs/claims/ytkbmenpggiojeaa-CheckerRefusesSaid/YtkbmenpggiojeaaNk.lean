/-
  CheckerRefuses: the walk of the law.
-/
import Derived.Test.YtkbmenpggiojeaaNj
import Derived.Test.YtkbmenpggiojeaaMc
namespace Go.Proofs.Ytkbmenpggiojeaa
open Go.RowKit
set_option linter.unusedSimpArgs false
set_option linter.unusedVariables false
set_option maxRecDepth 100000

theorem BlkAt.at_ {w : World} {g : Nat} {T : TypeId} {cs : List Value} (h : BlkAt w g T cs) (i : Nat) (u : Value) (hi : cs[i]? = some u) : w.cell? ⟨g, i, none⟩ = some u := (h.cell i).trans hi

theorem SlAt.upto {α : Type} {E : Reading α} {k : Nat} {w : World} {A : Option Addr} {l : List α} (h : SlAt E k w A l) (n : Nat) : SlAt E k w A (l.take n) := by
  intro hne
  have hl : l ≠ [] := by rintro rfl; simp at hne
  obtain ⟨b, off, hA, hlt, hc⟩ := h hl
  refine ⟨b, off, hA, hlt, fun i x hx => hc i x ?_⟩
  rw [List.getElem?_take] at hx
  split at hx
  · exact hx
  · cases hx
set_option maxHeartbeats 1000000 in
theorem Proves_c (al mr : List Int) (n : Nat) (ed : List Ed) (forb unc : List Int) (p : PrP) (kept dist : List Int) (rms : List Rm) (cp : CeP) (w : World) (hp : PrAt w ⟨al, n, mr, ed⟩ forb unc p) (hc : CeAt w kept dist rms cp) (hq : PrRight ⟨al, n, mr, ed⟩ forb unc) :
    Calls Try.prog 29 #[.agg (tpCells ⟨al, n, mr, ed⟩ forb unc p).toArray, .agg (ceList kept dist rms cp).toArray] w (Tells (KeptOk ⟨al, n, mr, ed⟩ forb unc kept dist rms) w) := by
  have W0 : Hid (Fro w.heap.size w ((w.alloc (.cells (tpCells ⟨al, n, mr, ed⟩ forb unc p).toArray 86)).alloc (.cells (ceList kept dist rms cp).toArray 81))) := ((Fro.here w).alloc _).alloc _
  have C1 : Hid (HasAt w.heap.size (tpCells ⟨al, n, mr, ed⟩ forb unc p) ((w.alloc (.cells (tpCells ⟨al, n, mr, ed⟩ forb unc p).toArray 86)).alloc (.cells (ceList kept dist rms cp).toArray 81))) := (HasAt.new w _ _ rfl).alloc _
  have C2 : Hid (HasAt (w.heap.size + 1) (ceList kept dist rms cp) ((w.alloc (.cells (tpCells ⟨al, n, mr, ed⟩ forb unc p).toArray 86)).alloc (.cells (ceList kept dist rms cp).toArray 81))) := HasAt.new _ _ _ (by simp)
  have HV := Lib.hid (fun W (hb : Below w.heap.size w W) => proves46_c al mr n ed forb unc p kept dist rms cp W (hp.below hb) (hc.below hb) hq)
  clear hp hc hq
  obtain ⟨⟨A1, c1, A2, c2, A3, c3⟩, AF, cF, AU, cU⟩ := p
  obtain ⟨AK, cK, AD, cD, AR, cR⟩ := cp
  dsimp only [tpCells, ceList] at *
  have q0 := C1.out.c 0 _ rfl
  have q1 := C1.out.c 1 _ rfl
  have q2 := C1.out.c 2 _ rfl
  have q3 := C1.out.c 3 _ rfl
  have q4 := C1.out.c 4 _ rfl
  have q5 := C1.out.c 5 _ rfl
  have q6 := C1.out.c 6 _ rfl
  have q7 := C1.out.c 7 _ rfl
  have r0 := C2.out.c 0 _ rfl
  have r1 := C2.out.c 1 _ rfl
  have r2 := C2.out.c 2 _ rfl
  clear C1 C2
  go_enter Try.func29, Try.ntmps29
  go_wp2_with fail
  refine (HV.out _ W0.out.b).mono ?_
  rintro e w1 ⟨r, rfl, hr, hb⟩
  have R1 := Lib.hid (W0.out.next hb)
  have HR := Lib.hid hr
  clear hr hb
  go_wp2
  go_ret
  exact ⟨r, rfl, HR.out, R1.out.b⟩

theorem ProvesZ_c (au : Au) (forb unc : List Int) (p : PrP) (kept dist : List Int) (rms : List Rm) (cp : CeP) (w : World) (hp : PrAt w au forb unc p) (hc : CeAt w kept dist rms cp) (hq : PrRight au forb unc) :
    Calls Try.prog 29 #[.agg (tpCells au forb unc p).toArray, .agg (ceList kept dist rms cp).toArray] w (Tells (KeptOk au forb unc kept dist rms) w) := by
  obtain ⟨al, n, mr, ed⟩ := au
  have h0 := hq.ha.n0
  obtain ⟨m, hm⟩ := Int.eq_ofNat_of_zero_le h0
  simp only at hm
  subst hm
  exact Proves_c al mr m ed forb unc p kept dist rms cp w hp hc hq

set_option maxHeartbeats 8000000 in
theorem refuses_c (al mr : List Int) (n : Int) (ed : List Ed) (forb unc : List Int) (p : PrP) (kept dist : List Int) (rms : List Rm) (cp : CeP) (w : World)
    (h1 : IntsAt w p.a.A1 al) (h2 : IntsAt w p.a.A2 mr) (h3 : EdsAt w p.a.A3 ed) (h4 : IntsAt w p.AF forb) (h5 : IntsAt w p.AU unc) (hk : IntsAt w cp.AK kept) (hd : IntsAt w cp.AD dist) (hr : RmsAt w cp.AR rms)
    (la : al.length ≤ maxLen) (lm : mr.length ≤ maxLen) (le : ed.length ≤ maxLen) (lf : forb.length ≤ maxLen) (lu : unc.length ≤ maxLen) (lk : kept.length ≤ maxLen) (ld : dist.length ≤ maxLen) (lr : rms.length ≤ maxLen) (lc : rms.length ≤ cp.cR) (lc2 : cp.cR ≤ maxLen) :
    Calls Try.prog 8 #[prVal ⟨al, n, mr, ed⟩ forb unc p, ceVal kept dist rms cp] w (Yes true w) := by
  have FC := Lib.hid (fun W (hb : Below w.heap.size w W) => few_c ⟨al, n, mr, ed⟩ p.a W (h1.below IntE.stays hb) (h2.below IntE.stays hb) (h3.below EdE.stays hb) la lm le)
  have HP0 : Hid (al.length ≤ 10 → mr.length ≤ 10 → ed.length ≤ 10 → forb.length ≤ 10 → unc.length ≤ 10 → PrAt w ⟨al, n, mr, ed⟩ forb unc p) := fun g1 g2 g3 g4 g5 => ⟨⟨h1, h2, h3, by simp only; omega, by simp only; omega, by simp only; omega⟩, h4, h5, by omega, by omega⟩
  have HK := Lib.hid hk
  have HD := Lib.hid hd
  have HM := Lib.hid hr
  unfold maxLen at la lm le lf lu lk ld lr lc2
  clear h1 h2 h3 h4 h5 hk hd hr
  obtain ⟨⟨A1, c1, A2, c2, A3, c3⟩, AF, cF, AU, cU⟩ := p
  obtain ⟨AK, cK, AD, cD, AR, cR⟩ := cp
  have W0 : Hid (Fro w.heap.size w ((w.alloc (.cells #[.slice A1 al.length c1, .int .i64 n, .slice A2 mr.length c2, .slice A3 ed.length c3, .slice AF forb.length cF, .slice AU unc.length cU] 78)).alloc (.cells #[.slice AK kept.length cK, .slice AD dist.length cD, .slice AR rms.length cR] 81))) := ((Fro.here w).alloc _).alloc _
  have C1 : Hid (BlkAt ((w.alloc (.cells #[.slice A1 al.length c1, .int .i64 n, .slice A2 mr.length c2, .slice A3 ed.length c3, .slice AF forb.length cF, .slice AU unc.length cU] 78)).alloc (.cells #[.slice AK kept.length cK, .slice AD dist.length cD, .slice AR rms.length cR] 81)) w.heap.size 78 [.slice A1 al.length c1, .int .i64 n, .slice A2 mr.length c2, .slice A3 ed.length c3, .slice AF forb.length cF, .slice AU unc.length cU]) := (BlkAt.new w _ _).alloc _
  have C2 : Hid (BlkAt ((w.alloc (.cells #[.slice A1 al.length c1, .int .i64 n, .slice A2 mr.length c2, .slice A3 ed.length c3, .slice AF forb.length cF, .slice AU unc.length cU] 78)).alloc (.cells #[.slice AK kept.length cK, .slice AD dist.length cD, .slice AR rms.length cR] 81)) (w.heap.size + 1) 81 [.slice AK kept.length cK, .slice AD dist.length cD, .slice AR rms.length cR]) := by
    have := BlkAt.new (w.alloc (.cells #[.slice A1 al.length c1, .int .i64 n, .slice A2 mr.length c2, .slice A3 ed.length c3, .slice AF forb.length cF, .slice AU unc.length cU] 78)) 81 [.slice AK kept.length cK, .slice AD dist.length cD, .slice AR rms.length cR]
    unfold Hid
    simpa using this
  dsimp only [prVal, prCells, ceVal, ceCells] at *
  go_enter Try.func8, Try.ntmps8
  go_wp2_with fail
  generalize hW : ((w.alloc (.cells #[.slice A1 al.length c1, .int .i64 n, .slice A2 mr.length c2, .slice A3 ed.length c3, .slice AF forb.length cF, .slice AU unc.length cU] 78)).alloc (.cells #[.slice AK kept.length cK, .slice AD dist.length cD, .slice AR rms.length cR] 81)) = W at *
  clear hW
  refine (known_c _).mono ?_
  rintro e w1 ⟨rfl, hb⟩
  have R1 := Lib.hid (W0.out.next hb)
  have P1 := Lib.hid (C1.out.below hb C1.out.lt)
  have D1 := Lib.hid (C2.out.below hb C2.out.lt)
  clear hb W0 C1 C2
  have q0 := P1.out.at_ 0 _ rfl
  have q1 := P1.out.at_ 1 _ rfl
  have q2 := P1.out.at_ 2 _ rfl
  have q3 := P1.out.at_ 3 _ rfl
  go_wp2_with fail
  refine (FC.out w1 R1.out.b).mono ?_
  intro e w2 hs
  rcases hs.no1 with ⟨rfl, S, hb⟩ | ⟨rfl, S, hb⟩
  · have R2 := Lib.hid (R1.out.next hb)
    clear hs hb
    go_wp2_with fail
    refine (known_c _).mono ?_
    rintro e w3 ⟨rfl, hb⟩
    have R3 := Lib.hid (R2.out.next hb)
    clear hb
    go_wp2
    go_ret
    exact ⟨rfl, R3.out.b⟩
  have R2 := Lib.hid (R1.out.next hb)
  have P2 := Lib.hid (P1.out.below hb P1.out.lt)
  have D2 := Lib.hid (D1.out.below hb D1.out.lt)
  clear hs hb P1 D1 q0 q1 q2 q3 R1
  have q1 := P2.out.at_ 1 _ rfl
  have q4 := P2.out.at_ 4 _ rfl
  have q5 := P2.out.at_ 5 _ rfl
  have r0 := D2.out.at_ 0 _ rfl
  have r1 := D2.out.at_ 1 _ rfl
  have r2 := D2.out.at_ 2 _ rfl
  by_cases hL : forb.length ≤ 10 ∧ unc.length ≤ 10 ∧ kept.length ≤ 10 ∧ dist.length ≤ 10 ∧ rms.length ≤ 10
  rotate_left
  · go_wp2_with fail
    all_goals first
      | (exfalso; omega)
      | (refine (known_c _).mono ?_; rintro e w5 ⟨rfl, hb⟩; have R5 := Lib.hid (R2.out.next hb); clear hb; go_wp2; go_ret; exact ⟨rfl, R5.out.b⟩)
  obtain ⟨l1, l2, l3, l4, l5⟩ := hL
  have HP := Lib.hid (HP0.out S.out.l1 S.out.l2 S.out.l3 l1 l2)
  clear HP0 FC
  have s1 : decide ((10 : Int) < (forb.length : Int)) = false := by simp; omega
  have s2 : decide ((10 : Int) < (unc.length : Int)) = false := by simp; omega
  have s3 : decide ((10 : Int) < (kept.length : Int)) = false := by simp; omega
  have s4 : decide ((10 : Int) < (dist.length : Int)) = false := by simp; omega
  have s5 : decide ((10 : Int) < (rms.length : Int)) = false := by simp; omega
  have q0 := P2.out.at_ 0 _ rfl
  have q2 := P2.out.at_ 2 _ rfl
  have q3 := P2.out.at_ 3 _ rfl
  go_upto_region 3 with fail
  have WP := Lib.hid (Fro.here w2)
  go_cut [5] (fun s5 wx => ∃ b : Bool, s5 = .bool b ∧ Hid (b = true ↔ PrRight ⟨al, n, mr, ed⟩ forb unc) ∧ Hid (Fro w2.heap.size w2 wx))
  case first =>
    go_wp2_with fail
    refine (Check_c ⟨al, n, mr, ed⟩ ⟨A1, c1, A2, c2, A3, c3⟩ w2 (HP.out.below R2.out.b).au).mono ?_
    intro e w3 hs
    rcases hs.two with ⟨r, rfl, hr, HR, S1, hb⟩ | ⟨rfl, S1, hb⟩
    · have R3 := Lib.hid (WP.out.next hb)
      clear hs hb
      go_wp2_with fail
      go_meet
      exact ⟨false, rfl, by simp [Hid]; exact fun h => S1.out h.ha, R3.out⟩
    · have R3 := Lib.hid (WP.out.next hb)
      have P3 := Lib.hid (P2.out.below hb P2.out.lt)
      have RR := Lib.hid (R2.out.next hb)
      clear hs hb q0 q1 q2 q3 q4 q5 r0 r1 r2
      have q1 := P3.out.at_ 1 _ rfl
      have q4 := P3.out.at_ 4 _ rfl
      have q5 := P3.out.at_ 5 _ rfl
      go_wp2_with fail
      refine (checkSetA_c AF cF forb n w3 (HP.out.below RR.out.b).hf (by unfold maxLen; omega)).mono ?_
      intro e w4 hs
      rcases hs.two with ⟨r, rfl, hr, HR, S2, rfl⟩ | ⟨rfl, S2, rfl⟩
      · clear hs
        go_wp2_with fail
        go_meet
        exact ⟨false, rfl, by simp [Hid]; exact fun h => S2.out h.hf, R3.out⟩
      · clear hs
        go_wp2_with fail
        refine (checkSetA_c AU cU unc 32 w3 (HP.out.below RR.out.b).hu (by unfold maxLen; omega)).mono ?_
        intro e w4 hs
        rcases hs.two with ⟨r, rfl, hr, HR, S3, rfl⟩ | ⟨rfl, S3, rfl⟩
        · clear hs
          go_wp2_with fail
          go_meet
          exact ⟨false, rfl, by simp [Hid]; exact fun h => S3.out h.hu, R3.out⟩
        · clear hs
          go_wp2_with fail
          go_meet
          exact ⟨true, rfl, by simp [Hid]; exact ⟨S1.out, S2.out, S3.out⟩, R3.out⟩
  case rest =>
    obtain ⟨b, rfl, HB, R3⟩ := hcut
    have T0 := Lib.hid (R2.out.next R3.out.b)
    have P3 := Lib.hid (P2.out.below R3.out.b P2.out.lt)
    have D3 := Lib.hid (D2.out.below R3.out.b D2.out.lt)
    have ML := Lib.hid (show rms.length ≤ rms.length from Nat.le_refl _)
    clear q0 q1 q2 q3 q4 q5 r0 r1 r2 P2 D2 WP R3 s1 s2 s3 s4 s5
    go_wp2_with fail
    go_loopw [6] (fun i wx => ∃ (k : Nat) (rs : List Rm), i = .int .i64 k ∧ k ≤ rs.length + 1 ∧ rs.length ≤ rms.length ∧ Hid (Fro w.heap.size w wx) ∧ Hid (BlkAt wx w.heap.size 78 [.slice A1 al.length c1, .int .i64 n, .slice A2 mr.length c2, .slice A3 ed.length c3, .slice AF forb.length cF, .slice AU unc.length cU]) ∧ Hid (BlkAt wx (w.heap.size + 1) 81 [.slice AK kept.length cK, .slice AD dist.length cD, .slice AR rs.length cR]) ∧ Hid (RmsAt w AR rs)) (fun i _ => 12 - (intOf i).toNat)
    case atStart => exact ⟨0, rms, rfl, by omega, ML.out, T0, P3, D3, HM⟩
    case round =>
      obtain ⟨k, rs, rfl, hk, hlr, T1, P4, D4, HRS⟩ := hrel
      clear T0 P3 D3
      have r2 := D4.out.at_ 2 _ rfl
      have f2 := D4.out.free 2
      have hz1 := D4.out.lt
      by_cases hlt : k < rs.length
      · obtain ⟨r, hr⟩ : ∃ r, rs[k]? = some r := ⟨_, List.getElem?_eq_getElem hlt⟩
        obtain ⟨bR, oR, hAR, hbR, t0, t1, t2, t3⟩ := RmsAt.get (HRS.out.below RmE.stays T1.out.b) hr
        subst hAR
        have HX := Lib.hid hr
        clear hr t0 t1 t3
        by_cases h4 : r.reason = 4
        · have h4' : (r.reason == 4) = true := by simpa using h4
          clear h4
          have hkc : (k : Int) ≤ (cR : Int) := by omega
          have TS : Hid (Fro w.heap.size w (wr.setCell ⟨w.heap.size + 1, 2, none⟩ (.slice (some ⟨bR, oR, none⟩) k cR))) := T1.out.setCell (by omega) _
          have PS : Hid (BlkAt (wr.setCell ⟨w.heap.size + 1, 2, none⟩ (.slice (some ⟨bR, oR, none⟩) k cR)) w.heap.size 78 _) := P4.out.far (by simp only; omega) _
          have DS : Hid (BlkAt (wr.setCell ⟨w.heap.size + 1, 2, none⟩ (.slice (some ⟨bR, oR, none⟩) k cR)) (w.heap.size + 1) 81 _) := D4.out.set_ 2 _
          go_wp2
          go_roundw
          case rel => exact ⟨k + 1, rs.take k, by go_num, by simp; omega, by simp; omega, TS, PS, by rw [List.length_take, Nat.min_eq_left (by omega)]; exact DS, HRS.out.upto k⟩
          case measure => simp [intOf]; omega
        · have h4' : (r.reason == 4) = false := by simpa using h4
          clear h4
          go_wp2
          go_roundw
          case rel => exact ⟨k + 1, rs, by go_num, by omega, hlr, T1, P4, D4, HRS⟩
          case measure => simp [intOf]; omega
      · have q0 := P4.out.at_ 0 _ rfl
        have q1 := P4.out.at_ 1 _ rfl
        have q2 := P4.out.at_ 2 _ rfl
        have q3 := P4.out.at_ 3 _ rfl
        have q4 := P4.out.at_ 4 _ rfl
        have q5 := P4.out.at_ 5 _ rfl
        have r0 := D4.out.at_ 0 _ rfl
        have r1 := D4.out.at_ 1 _ rfl
        have hz0 := P4.out.lt
        have CE : Hid (CeAt w kept dist rs ⟨AK, cK, AD, cD, AR, cR⟩) := ⟨HK.out, HD.out, HRS.out, by omega, by omega, by omega⟩
        have WP := Lib.hid (Fro.here wr)
        go_upto_region 9 with fail
        go_cut [7] (fun s7 wx => ∃ b : Bool, s7 = .bool b ∧ Hid (b = true ↔ KeptOk ⟨al, n, mr, ed⟩ forb unc kept dist rs) ∧ Hid (Fro wr.heap.size wr wx))
        case first =>
          cases b
          · go_wp2_with fail
            go_meet
            exact ⟨false, rfl, by simp [Hid]; exact fun h => by have := HB.out.2 h.pr; simp at this, WP.out⟩
          · go_wp2_with fail
            refine (ProvesZ_c ⟨al, n, mr, ed⟩ forb unc ⟨⟨A1, c1, A2, c2, A3, c3⟩, AF, cF, AU, cU⟩ kept dist rs ⟨AK, cK, AD, cD, AR, cR⟩ wr (HP.out.below T1.out.b) (CE.out.below T1.out.b) (HB.out.1 (by simp))).mono ?_
            rintro e w3 ⟨r, rfl, hr, hb⟩
            have R3 := Lib.hid (WP.out.next hb)
            have HR := Lib.hid hr
            clear hr hb
            go_wp2_with fail
            go_meet
            exact ⟨r, rfl, HR.out, R3.out⟩
        case rest =>
          obtain ⟨b7, rfl, HW, R7⟩ := hcut
          have T7 := Lib.hid (T1.out.next R7.out.b)
          have P7 := Lib.hid (P4.out.below R7.out.b P4.out.lt)
          have D7 := Lib.hid (D4.out.below R7.out.b D4.out.lt)
          clear q0 q1 q2 q3 q4 q5 r0 r1 r2 P4 D4 T1 R7 WP f2 hz0 hz1
          have q0 := P7.out.at_ 0 _ rfl
          have q1 := P7.out.at_ 1 _ rfl
          have q2 := P7.out.at_ 2 _ rfl
          have q3 := P7.out.at_ 3 _ rfl
          have q4 := P7.out.at_ 4 _ rfl
          have q5 := P7.out.at_ 5 _ rfl
          have r0 := D7.out.at_ 0 _ rfl
          have r1 := D7.out.at_ 1 _ rfl
          have r2 := D7.out.at_ 2 _ rfl
          have hz0 := P7.out.lt
          have hz1 := D7.out.lt
          have KC := Lib.hid (fun W (hb : Below w.heap.size w W) => Kept_c ⟨al, n, mr, ed⟩ forb unc ⟨⟨A1, c1, A2, c2, A3, c3⟩, AF, cF, AU, cU⟩ kept dist rs ⟨AK, cK, AD, cD, AR, cR⟩ W (HP.out.below hb) (CE.out.below hb) (by have := S.out.l3; simp only at this ⊢; omega))
          have SC := Lib.hid (fun W (hb : Below w.heap.size w W) => Supervisor0_c ⟨al, n, mr, ed⟩ forb unc ⟨⟨A1, c1, A2, c2, A3, c3⟩, AF, cF, AU, cU⟩ kept dist rs ⟨AK, cK, AD, cD, AR, cR⟩ W (HP.out.below hb) (CE.out.below hb) (by have := S.out.l3; simp only at this ⊢; omega) (by have := S.out.l1; simp only at this ⊢; omega))
          have T8 : Hid (Fro w.heap.size w (wc.alloc (.cells #[.slice A1 al.length c1, .int .i64 0, .slice none 0 0, .slice none 0 0] 39))) := T7.out.alloc _
          have P8 : Hid (BlkAt (wc.alloc (.cells #[.slice A1 al.length c1, .int .i64 0, .slice none 0 0, .slice none 0 0] 39)) w.heap.size 78 _) := P7.out.alloc _
          have D8 : Hid (BlkAt (wc.alloc (.cells #[.slice A1 al.length c1, .int .i64 0, .slice none 0 0, .slice none 0 0] 39)) (w.heap.size + 1) 81 _) := D7.out.alloc _
          have A8 : Hid (BlkAt (wc.alloc (.cells #[.slice A1 al.length c1, .int .i64 0, .slice none 0 0, .slice none 0 0] 39)) wc.heap.size 39 [.slice A1 al.length c1, .int .i64 0, .slice none 0 0, .slice none 0 0]) := BlkAt.new wc _ _
          go_wp2_with fail
          generalize hW : wc.alloc (.cells #[.slice A1 al.length c1, .int .i64 0, .slice none 0 0, .slice none 0 0] 39) = W8 at *
          clear hW P7 D7 T7 q0 q1 q2 q3 q4 q5 r0 r1 r2 hz0 hz1
          refine (KC.out W8 T8.out.b).mono ?_
          rintro e w9 ⟨r9, rfl, hr, hb⟩
          obtain rfl : r9 = b7 := by rw [Bool.eq_iff_iff, hr, HW.out]
          have T9 := Lib.hid (T8.out.next hb)
          have P9 := Lib.hid (P8.out.below hb P8.out.lt)
          have D9 := Lib.hid (D8.out.below hb D8.out.lt)
          have A9 := Lib.hid (A8.out.below hb A8.out.lt)
          clear hr hb T8 P8 D8 A8
          have q0 := P9.out.at_ 0 _ rfl
          have q1 := P9.out.at_ 1 _ rfl
          have q2 := P9.out.at_ 2 _ rfl
          have q3 := P9.out.at_ 3 _ rfl
          have q4 := P9.out.at_ 4 _ rfl
          have q5 := P9.out.at_ 5 _ rfl
          have r0 := D9.out.at_ 0 _ rfl
          have r1 := D9.out.at_ 1 _ rfl
          have r2 := D9.out.at_ 2 _ rfl
          have a0 := A9.out.at_ 0 _ rfl
          have a1 := A9.out.at_ 1 _ rfl
          have a2 := A9.out.at_ 2 _ rfl
          have a3 := A9.out.at_ 3 _ rfl
          have hz0 := P9.out.lt
          have hz1 := D9.out.lt
          cases r9
          · go_wp2_with fail
            refine (SC.out w9 T9.out.b).mono ?_
            rintro e w10 ⟨r10, rfl, hr, hb⟩
            obtain rfl : r10 = false := by
              cases r10
              · rfl
              · have := HW.out.2 (hr.1 rfl).1; simp at this
            have T10 := Lib.hid (T9.out.next hb)
            clear hr hb
            go_wp2
            go_ret
            exact ⟨rfl, T10.out.b⟩
          · have KO := Lib.hid (HW.out.1 (by simp))
            go_wp2_with fail
            refine (SC.out w9 T9.out.b).mono ?_
            rintro e w10 ⟨r10, rfl, hr, hb⟩
            have HR10 := Lib.hid hr
            have T10 := Lib.hid (T9.out.next hb)
            have D10 := Lib.hid (D9.out.below hb D9.out.lt)
            clear hr hb q0 q1 q2 q3 q4 q5 r0 r1 r2 a0 a1 a2 a3 hz0 hz1
            have r0 := D10.out.at_ 0 _ rfl
            go_wp2_with fail
            refine (lhas_c AK cK kept 0 w10 (HK.out.below IntE.stays T10.out.b) (by omega)).mono ?_
            rintro e w11 ⟨r11, rfl, hr, rfl⟩
            obtain rfl : r10 = !r11 := by
              have h1 := HR10.out
              rw [Bool.eq_iff_iff, h1]
              simp only [Bool.not_eq_true', ← Bool.not_eq_true, hr]
              exact ⟨fun h => h.2, fun h => ⟨KO.out, h⟩⟩
            clear hr HR10
            cases r11
            all_goals
              go_wp2
              go_ret
              exact ⟨rfl, T10.out.b⟩
end Go.Proofs.Ytkbmenpggiojeaa
