/-
  The law's own proof of a removed state (chapter 46).
-/
import Derived.Test.YtkbmenpggiojeaaNf
namespace Go.Proofs.Ytkbmenpggiojeaa
open Go.RowKit
set_option linter.unusedSimpArgs false
set_option linter.unusedVariables false
set_option maxRecDepth 100000

/-- An edge leads to what was removed at a lower rank. -/
def befP (rms : List Rm) (rp : List Int) (rank : Int) (y : Ed) : Prop := ∃ (k : Nat) (q : Rm), rp[y.dst.toNat]? = some (k : Int) ∧ rms[k]? = some q ∧ q.rank < rank
/-- An edge leads to what is blocked at the same rank. -/
def witP (rms : List Rm) (rp : List Int) (rank : Int) (y : Ed) : Prop := ∃ (k : Nat) (q : Rm), rp[y.dst.toNat]? = some (k : Int) ∧ rms[k]? = some q ∧ q.rank = rank ∧ q.reason = 3
def allP (rms : List Rm) (rp : List Int) (r : Rm) (y : Ed) : Prop := y.src = r.st → befP rms rp r.rank y ∨ witP rms rp r.rank y
def oneP (rms : List Rm) (rp : List Int) (r : Rm) (y : Ed) : Prop := y.src = r.st ∧ befP rms rp r.rank y ∧ y.ev = r.ev
def Rem46 (au : Au) (forb unc : List Int) (rms : List Rm) (rp : List Int) (r : Rm) : Prop :=
  1 ≤ r.rank ∧ (r.reason = 1 ∧ r.ev = -1 ∧ r.st ∈ forb ∨ r.reason = 2 ∧ r.ev ∈ unc ∧ (∃ y, y ∈ au.ed ∧ oneP rms rp r y) ∨ r.reason = 3 ∧ r.ev = -1 ∧ r.st ∉ au.mr ∧ ∀ y, y ∈ au.ed → allP rms rp r y)

set_option maxHeartbeats 4000000 in
theorem removes46_c (au : Au) (forb unc : List Int) (p : PrP) (kept dist : List Int) (rms : List Rm) (cp : CeP) (RA : Option Addr) (rc : Nat) (rp : List Int) (i : Nat) (r : Rm) (w : World) (hp : PrAt w au forb unc p) (hc : CeAt w kept dist rms cp)
    (hr : au.Right) (hk : IntsAt w RA rp) (ho : KpOk au.n.toNat rms.length rp) (hx : rms[i]? = some r) :
    Calls Try.prog 93 #[.agg (tpCells au forb unc p).toArray, .agg (ceList kept dist rms cp).toArray, .slice RA rp.length rc, .int .i64 i] w (Tells (Rem46 au forb unc rms rp r) w) := by
  have W0 : Hid (Fro w.heap.size w ((w.alloc (.cells (tpCells au forb unc p).toArray 86)).alloc (.cells (ceList kept dist rms cp).toArray 81))) := ((Fro.here w).alloc _).alloc _
  have C1 : Hid (HasAt w.heap.size (tpCells au forb unc p) ((w.alloc (.cells (tpCells au forb unc p).toArray 86)).alloc (.cells (ceList kept dist rms cp).toArray 81))) := (HasAt.new w _ _ rfl).alloc _
  have C2 : Hid (HasAt (w.heap.size + 1) (ceList kept dist rms cp) ((w.alloc (.cells (tpCells au forb unc p).toArray 86)).alloc (.cells (ceList kept dist rms cp).toArray 81))) := HasAt.new _ _ _ (by simp)
  have HP := Lib.hid hp
  have HC := Lib.hid hc
  have HR := Lib.hid hr
  have HK := Lib.hid hk
  have HO := Lib.hid ho
  have HX := Lib.hid hx
  have il := (List.getElem?_eq_some_iff.1 hx).1
  have lr := hc.lr
  have lF := hp.lf
  have lU := hp.lu
  have le := hp.au.led
  clear hp hc hr hk ho hx
  obtain ⟨al, n, mr, ed⟩ := au
  obtain ⟨⟨A1, c1, A2, c2, A3, c3⟩, AF, cF, AU, cU⟩ := p
  obtain ⟨AK, cK, AD, cD, AR, cR⟩ := cp
  obtain ⟨st, rank, reason, ev⟩ := r
  dsimp only [tpCells, ceList] at *
  go_enter Try.func93, Try.ntmps93
  go_upto_region 1 with fail
  generalize hW : ((w.alloc (.cells #[.slice A1 al.length c1, .int .i64 n, .slice A2 mr.length c2, .slice A3 ed.length c3, .slice AF forb.length cF, .slice AU unc.length cU, .slice none 0 0, .int .i64 (-1)] 86)).alloc (.cells #[.slice AK kept.length cK, .slice AD dist.length cD, .slice AR rms.length cR] 81)) = W at *
  clear hW
  obtain ⟨bR, oR, hAR, hbR, hR0, hR1, hR2, hR3⟩ := RmsAt.get (HC.out.below W0.out.b).hr HX.out
  dsimp only at hAR hR0 hR1 hR2 hR3
  subst hAR
  have q3 := C1.out.c 3 _ rfl
  have q2 := C2.out.c 2 _ rfl
  have hz0 := C1.out.z
  have hz1 := C2.out.z
  have D1 : Hid (HasAt w.heap.size _ (W.alloc (.cells #[.int .i64 st, .int .i64 rank, .int .i64 reason, .int .i64 ev] 83))) := C1.out.alloc _
  have D2 : Hid (HasAt (w.heap.size + 1) _ (W.alloc (.cells #[.int .i64 st, .int .i64 rank, .int .i64 reason, .int .i64 ev] 83))) := C2.out.alloc _
  have D3 : Hid (HasAt W.heap.size [.int .i64 st, .int .i64 rank, .int .i64 reason, .int .i64 ev] (W.alloc (.cells #[.int .i64 st, .int .i64 rank, .int .i64 reason, .int .i64 ev] 83))) := HasAt.new _ _ _ rfl
  have WD : Hid (Fro w.heap.size w (W.alloc (.cells #[.int .i64 st, .int .i64 rank, .int .i64 reason, .int .i64 ev] 83))) := W0.out.alloc _
  by_cases hrk : rank < 1
  · go_wp2
    go_ret
    exact Tells.no (fun h => by have := h.1; simp only at this; omega) WD.out.b
  have HRK : Hid (1 ≤ rank) := by unfold Hid; omega
  go_wp2_with fail
  generalize hV : (W.alloc (.cells #[.int .i64 st, .int .i64 rank, .int .i64 reason, .int .i64 ev] 83)) = V at *
  clear hV
  generalize hB : W.heap.size = B at *
  clear hB q3 q2 hz0 hz1 hR0 hR1 hR2 hR3 C1 C2 W0 hbR
  go_loopw [10, 11, 12, 30] (fun s1 s2 s3 j wr => ∃ (k : Nat) (a o : Bool), j = .int .i64 k ∧ k ≤ ed.length ∧ s1 = .bool a ∧ s2 = .bool true ∧ s3 = .bool o ∧ Hid (Fro V.heap.size V wr) ∧ Hid (a = true ↔ ∀ m y, m < k → ed[m]? = some y → allP rms rp ⟨st, rank, reason, ev⟩ y) ∧ Hid (o = true ↔ ∃ m y, m < k ∧ ed[m]? = some y ∧ oneP rms rp ⟨st, rank, reason, ev⟩ y)) (fun _ _ _ j _ => ed.length - (intOf j).toNat)
  case atStart => exact ⟨0, true, false, rfl, by omega, rfl, rfl, rfl, Fro.here V, by simp [Hid], by simp [Hid]⟩
  case round =>
    obtain ⟨k, a, o, rfl, hk, rfl, rfl, rfl, BW, HA, HB⟩ := hrel
    have E1 := Lib.hid (D1.out.below BW.out.b)
    have E2 := Lib.hid (D2.out.below BW.out.b)
    have E3 := Lib.hid (D3.out.below BW.out.b)
    have WF := Lib.hid (WD.out.next BW.out.b)
    have q1 := E1.out.c 1 _ rfl
    have q2 := E1.out.c 2 _ rfl
    have q3 := E1.out.c 3 _ rfl
    have q4 := E1.out.c 4 _ rfl
    have q5 := E1.out.c 5 _ rfl
    have q6 := E1.out.c 6 _ rfl
    have q7 := E1.out.c 7 _ rfl
    have r2 := E2.out.c 2 _ rfl
    have s0 := E3.out.c 0 _ rfl
    have s1 := E3.out.c 1 _ rfl
    have s2 := E3.out.c 2 _ rfl
    have s3 := E3.out.c 3 _ rfl
    have hz0 := E1.out.z
    have hz1 := E2.out.z
    have hz2 := E3.out.z
    by_cases hlt : k < ed.length
    · obtain ⟨bE, oE, y, hA3, hbE, hy, e0, e1, e2⟩ := EdsAt.at ((HP.out.below WF.out.b).au.ed) hlt
      have HE := Lib.hid (HR.out.ed k hlt y hy)
      obtain ⟨src, yev, dst⟩ := y
      dsimp only at hA3 e0 e1 e2
      subst hA3
      have HY := Lib.hid hy
      clear hy
      have BN : Hid (Fro V.heap.size V (wr.alloc (.cells #[.int .i64 src, .int .i64 yev, .int .i64 dst] 73))) := BW.out.alloc _
      have HSA : Hid (∀ a' : Bool, (a' = true ↔ a = true ∧ allP rms rp ⟨st, rank, reason, ev⟩ ⟨src, yev, dst⟩) → Hid (a' = true ↔ ∀ m y, m < k + 1 → ed[m]? = some y → allP rms rp ⟨st, rank, reason, ev⟩ y)) := fun a' h => by
        rw [Hid, h, HA.out]
        constructor
        · rintro ⟨h1, h2⟩ m y hm hy
          by_cases e : m = k
          · subst e; rw [HY.out] at hy; cases hy; exact h2
          · exact h1 m y (by omega) hy
        · exact fun h => ⟨fun m y hm hy => h m y (by omega) hy, h k _ (by omega) HY.out⟩
      have HSO : Hid (∀ o' : Bool, (o' = true ↔ o = true ∨ oneP rms rp ⟨st, rank, reason, ev⟩ ⟨src, yev, dst⟩) → Hid (o' = true ↔ ∃ m y, m < k + 1 ∧ ed[m]? = some y ∧ oneP rms rp ⟨st, rank, reason, ev⟩ y)) := fun o' h => by
        rw [Hid, h, HB.out]
        constructor
        · rintro (⟨m, y, h1, h2, h3⟩ | h)
          · exact ⟨m, y, by omega, h2, h3⟩
          · exact ⟨k, _, by omega, HY.out, h⟩
        · rintro ⟨m, y, h1, h2, h3⟩
          by_cases e : m = k
          · subst e; rw [HY.out] at h2; cases h2; exact .inr h3
          · exact .inl ⟨m, y, by omega, h2, h3⟩
      by_cases hs : src = st
      · have hs' : (src != st) = false := by simpa using hs
        have HS := Lib.hid hs
        clear hs
        obtain ⟨d0, d1⟩ : 0 ≤ dst ∧ dst < n := ⟨HE.out.2.2.1, HE.out.2.2.2.1⟩
        obtain ⟨dn, rfl⟩ := Int.eq_ofNat_of_zero_le d0
        have hdl : dn < rp.length := by have := HO.out.l; omega
        obtain ⟨bP, oP, v, hKA, _, hv, hcv⟩ := IntsAt.at (HK.out.below IntE.stays WF.out.b) hdl
        subst hKA
        have hvr := HO.out.r dn v hv
        have HV : Hid (rp[(dn : Int).toNat]? = some v) := by simpa [Hid] using hv
        clear hv
        by_cases hv0 : v < 0
        · have hin : decide (0 ≤ v) = false := by simpa using hv0
          have NA : Hid (¬ allP rms rp ⟨st, rank, reason, ev⟩ ⟨src, yev, (dn : Int)⟩) := fun h => by
            rcases h HS.out with ⟨k, q, h, _⟩ | ⟨k, q, h, _⟩ <;> (simp only at h; rw [HV.out] at h; cases h; omega)
          have NO : Hid (¬ oneP rms rp ⟨st, rank, reason, ev⟩ ⟨src, yev, (dn : Int)⟩) := fun h => by
            obtain ⟨_, ⟨k, q, h, _⟩, _⟩ := h; simp only at h; rw [HV.out] at h; cases h; omega
          cases a <;> cases o
          all_goals
            go_wp2_with fail
            refine (phas_c none 0 [] yev _ SlAt.nil (by simp)).mono ?_
            intro e w3 hss; rcases hss.no1 with ⟨rfl, S, rfl⟩ | ⟨rfl, S, rfl⟩
            · clear hss
              go_wp2
              go_roundw
              case rel => exact ⟨k + 1, _, _, by go_num, by omega, rfl, rfl, rfl, BN.out, HSA.out _ (by simp [NA.out]), HSO.out _ (by simp [NO.out])⟩
              case measure => simp [intOf]; omega
            · exact absurd S.out (by simp)
        · have hin : decide (0 ≤ v) = true := by simpa using hv0
          obtain ⟨vn, rfl⟩ := Int.eq_ofNat_of_zero_le (show 0 ≤ v by omega)
          have hvl : vn < rms.length := by omega
          obtain ⟨q, hq⟩ : ∃ q, rms[vn]? = some q := ⟨_, List.getElem?_eq_getElem hvl⟩
          obtain ⟨bR2, oR2, hAR, _, t0, t1, t2, t3⟩ := RmsAt.get ((HC.out.below WF.out.b).hr) hq
          cases hAR
          obtain ⟨qst, qrank, qreason, qev⟩ := q
          dsimp only at t0 t1 t2 t3
          have HQ := Lib.hid hq
          clear hq hvr
          have EB : Hid (befP rms rp rank ⟨src, yev, (dn : Int)⟩ ↔ qrank < rank) := by
            constructor
            · rintro ⟨k, q, h, h1, h2⟩; simp only at h; rw [HV.out] at h; obtain rfl : vn = k := by
                have : (vn : Int) = k := by simpa using h
                omega
              rw [HQ.out] at h1; cases h1; exact h2
            · exact fun h => ⟨vn, _, HV.out, HQ.out, h⟩
          have EW : Hid (witP rms rp rank ⟨src, yev, (dn : Int)⟩ ↔ qrank = rank ∧ qreason = 3) := by
            constructor
            · rintro ⟨k, q, h, h1, h2⟩; simp only at h; rw [HV.out] at h; obtain rfl : vn = k := by
                have : (vn : Int) = k := by simpa using h
                omega
              rw [HQ.out] at h1; cases h1; exact h2
            · exact fun h => ⟨vn, _, HV.out, HQ.out, h⟩
          have EA : Hid (allP rms rp ⟨st, rank, reason, ev⟩ ⟨src, yev, (dn : Int)⟩ ↔ qrank < rank ∨ qrank = rank ∧ qreason = 3) := by
            rw [Hid, allP]; simp only; rw [EB.out, EW.out]; simp [HS.out]
          have EO : Hid (oneP rms rp ⟨st, rank, reason, ev⟩ ⟨src, yev, (dn : Int)⟩ ↔ qrank < rank ∧ yev = ev) := by
            rw [Hid, oneP]; simp only; rw [EB.out]; simp [HS.out]
          clear EB EW
          by_cases hbf : qrank < rank
          · have h1 : decide (qrank < rank) = true := by simpa using hbf
            have h2 : (qrank == rank) = false := by rw [beq_eq_false_iff_ne]; omega
            have YA : Hid (allP rms rp ⟨st, rank, reason, ev⟩ ⟨src, yev, (dn : Int)⟩) := EA.out.2 (.inl hbf)
            have YB : Hid (oneP rms rp ⟨st, rank, reason, ev⟩ ⟨src, yev, (dn : Int)⟩ ↔ yev = ev) := by rw [Hid, EO.out]; simp [hbf]
            clear EA EO
            by_cases hev : yev = ev
            · have hev' : (yev == ev) = true := by simpa using hev
              have YO : Hid (oneP rms rp ⟨st, rank, reason, ev⟩ ⟨src, yev, (dn : Int)⟩) := YB.out.2 hev
              clear hev
              go_wp2_with fail
              go_quiet (fail)
              go_wp2_with fail
              go_quiet (fail)
              cases a <;> cases o
              all_goals
                go_wp2
                go_roundw
                case rel => exact ⟨k + 1, _, _, by go_num, by omega, rfl, rfl, rfl, BN.out.draws _, HSA.out _ (by simp [YA.out]), HSO.out _ (by simp [YO.out])⟩
                case measure => simp [intOf]; omega
            · have hev' : (yev == ev) = false := by simpa using hev
              have YO : Hid (¬ oneP rms rp ⟨st, rank, reason, ev⟩ ⟨src, yev, (dn : Int)⟩) := fun h => hev (YB.out.1 h)
              clear hev
              go_wp2_with fail
              go_quiet (fail)
              go_wp2_with fail
              go_quiet (fail)
              cases a <;> cases o
              all_goals
                go_wp2
                go_roundw
                case rel => exact ⟨k + 1, _, _, by go_num, by omega, rfl, rfl, rfl, BN.out.draws _, HSA.out _ (by simp [YA.out]), HSO.out _ (by simp [YO.out])⟩
                case measure => simp [intOf]; omega
          · have h1 : decide (qrank < rank) = false := by simpa using hbf
            have NO : Hid (¬ oneP rms rp ⟨st, rank, reason, ev⟩ ⟨src, yev, (dn : Int)⟩) := fun h => hbf (EO.out.1 h).1
            have YB : Hid (allP rms rp ⟨st, rank, reason, ev⟩ ⟨src, yev, (dn : Int)⟩ ↔ qrank = rank ∧ qreason = 3) := by rw [Hid, EA.out]; simp [hbf]
            clear EA EO hbf
            by_cases heq : qrank = rank
            · have h2 : (qrank == rank) = true := by simpa using heq
              have HEQ := Lib.hid heq
              clear heq
              by_cases h3 : qreason = 3
              · have h3' : (qreason == 3) = true := by simpa using h3
                have YA : Hid (allP rms rp ⟨st, rank, reason, ev⟩ ⟨src, yev, (dn : Int)⟩) := YB.out.2 ⟨HEQ.out, h3⟩
                clear h3 YB
                go_wp2_with fail
                go_quiet (fail)
                go_wp2_with fail
                go_quiet (fail)
                cases a <;> cases o
                all_goals
                  go_wp2_with fail
                  refine (phas_c none 0 [] yev _ SlAt.nil (by simp)).mono ?_
                  intro e w3 hss; rcases hss.no1 with ⟨rfl, S, rfl⟩ | ⟨rfl, S, rfl⟩
                  · clear hss
                    go_wp2
                    go_roundw
                    case rel => exact ⟨k + 1, _, _, by go_num, by omega, rfl, rfl, rfl, BN.out.draws _, HSA.out _ (by simp [YA.out]), HSO.out _ (by simp [NO.out])⟩
                    case measure => simp [intOf]; omega
                  · exact absurd S.out (by simp)
              · have h3' : (qreason == 3) = false := by simpa using h3
                have YA : Hid (¬ allP rms rp ⟨st, rank, reason, ev⟩ ⟨src, yev, (dn : Int)⟩) := fun h => h3 (YB.out.1 h).2
                clear h3 YB
                go_wp2_with fail
                go_quiet (fail)
                go_wp2_with fail
                go_quiet (fail)
                cases a <;> cases o
                all_goals
                  go_wp2_with fail
                  refine (phas_c none 0 [] yev _ SlAt.nil (by simp)).mono ?_
                  intro e w3 hss; rcases hss.no1 with ⟨rfl, S, rfl⟩ | ⟨rfl, S, rfl⟩
                  · clear hss
                    go_wp2
                    go_roundw
                    case rel => exact ⟨k + 1, _, _, by go_num, by omega, rfl, rfl, rfl, BN.out.draws _, HSA.out _ (by simp [YA.out]), HSO.out _ (by simp [NO.out])⟩
                    case measure => simp [intOf]; omega
                  · exact absurd S.out (by simp)
            · have h2 : (qrank == rank) = false := by simpa using heq
              have YA : Hid (¬ allP rms rp ⟨st, rank, reason, ev⟩ ⟨src, yev, (dn : Int)⟩) := fun h => heq (YB.out.1 h).1
              clear heq YB
              go_wp2_with fail
              go_quiet (fail)
              go_wp2_with fail
              go_quiet (fail)
              cases a <;> cases o
              all_goals
                go_wp2_with fail
                refine (phas_c none 0 [] yev _ SlAt.nil (by simp)).mono ?_
                intro e w3 hss; rcases hss.no1 with ⟨rfl, S, rfl⟩ | ⟨rfl, S, rfl⟩
                · clear hss
                  go_wp2
                  go_roundw
                  case rel => exact ⟨k + 1, _, _, by go_num, by omega, rfl, rfl, rfl, BN.out.draws _, HSA.out _ (by simp [YA.out]), HSO.out _ (by simp [NO.out])⟩
                  case measure => simp [intOf]; omega
                · exact absurd S.out (by simp)
      · have hs' : (src != st) = true := by simpa using hs
        have NA : Hid (allP rms rp ⟨st, rank, reason, ev⟩ ⟨src, yev, dst⟩) := fun h => absurd h hs
        have NO : Hid (¬ oneP rms rp ⟨st, rank, reason, ev⟩ ⟨src, yev, dst⟩) := fun h => hs h.1
        clear hs
        go_wp2
        go_roundw
        case rel => exact ⟨k + 1, a, o, by go_num, by omega, rfl, rfl, rfl, BN.out, HSA.out _ (by simp [NA.out]), HSO.out _ (by simp [NO.out])⟩
        case measure => simp [intOf]; omega
    · obtain rfl : k = ed.length := by omega
      have HNA : Hid (a = true ↔ ∀ y, y ∈ ed → allP rms rp ⟨st, rank, reason, ev⟩ y) := by
        rw [Hid, HA.out]
        constructor
        · intro h y hy
          obtain ⟨m, hm, rfl⟩ := List.mem_iff_getElem.1 hy
          exact h m _ hm (List.getElem?_eq_getElem hm)
        · exact fun h m y _ hy => h y (List.mem_of_getElem? hy)
      have HNO : Hid (o = true ↔ ∃ y, y ∈ ed ∧ oneP rms rp ⟨st, rank, reason, ev⟩ y) := by
        rw [Hid, HB.out]
        constructor
        · rintro ⟨m, y, _, h2, h3⟩; exact ⟨y, List.mem_of_getElem? h2, h3⟩
        · rintro ⟨y, hy, h3⟩
          obtain ⟨m, hm, rfl⟩ := List.mem_iff_getElem.1 hy
          exact ⟨m, _, hm, List.getElem?_eq_getElem hm, h3⟩
      have HOE : Hid (ev = -1 → o = false) := fun h => by
        cases o
        · rfl
        · obtain ⟨y, hy, _, _, h3⟩ := HNO.out.1 rfl
          obtain ⟨m, hm, rfl⟩ := List.mem_iff_getElem.1 hy
          have h4 := HR.out.ed m hm _ (List.getElem?_eq_getElem hm)
          obtain ⟨t, ht, he⟩ := List.mem_iff_getElem.1 h4.2.2.2.2.1
          have := HR.out.al t _ ht (List.getElem?_eq_getElem ht)
          rw [he] at this
          simp only at h3
          omega
      clear HA HB
      by_cases c1 : reason = 1
      · subst c1
        by_cases he : ev = -1
        · subst he
          go_wp2_with fail
          refine (phas_c AF cF forb st _ ((HP.out.below WF.out.b).hf) (by omega)).mono ?_
          intro e w3 hss; rcases hss.no1 with ⟨rfl, S, rfl⟩ | ⟨rfl, S, rfl⟩
          · clear hss
            go_wp2
            go_ret
            exact Tells.no (fun h => by rcases h.2 with h | h | h <;> first | exact S.out h.2.2 | exact absurd h.1 (by simp)) WF.out.b
          · clear hss
            go_wp2
            go_ret
            exact Tells.yes ⟨HRK.out, .inl ⟨rfl, rfl, S.out⟩⟩ WF.out.b
        · have he' : (ev == -1) = false := by simpa using he
          have HE := Lib.hid he
          clear he
          go_wp2
          go_ret
          exact Tells.no (fun h => by rcases h.2 with h | h | h <;> first | exact HE.out h.2.1 | exact absurd h.1 (by simp)) WF.out.b
      have c1' : (reason == 1) = false := by simpa using c1
      have D1 := Lib.hid c1
      clear c1
      by_cases c2 : reason = 2
      · subst c2
        go_wp2_with fail
        refine (phas_c AU cU unc ev _ ((HP.out.below WF.out.b).hu) (by omega)).mono ?_
        intro e w3 hss; rcases hss.yes1 with ⟨rfl, S, rfl⟩ | ⟨rfl, S, rfl⟩
        · clear hss
          go_wp2
          go_ret
          exact ⟨o, rfl, by rw [HNO.out]; exact ⟨fun h => ⟨HRK.out, .inr (.inl ⟨rfl, S.out, h⟩)⟩, fun h => by rcases h.2 with h | h | h <;> first | exact h.2.2 | exact absurd h.1 (by simp)⟩, WF.out.b⟩
        · clear hss
          go_wp2
          go_ret
          exact Tells.no (fun h => by rcases h.2 with h | h | h <;> first | exact S.out h.2.1 | exact absurd h.1 (by simp)) WF.out.b
      have c2' : (reason == 2) = false := by simpa using c2
      have D2 := Lib.hid c2
      clear c2
      by_cases c4 : reason = 4
      · subst c4
        have NN : Hid (¬ Rem46 ⟨al, n, mr, ed⟩ forb unc rms rp ⟨st, rank, 4, ev⟩) := fun h => by rcases h.2 with h | h | h <;> exact absurd h.1 (by simp)
        by_cases he : ev = -1
        · obtain rfl := HOE.out he
          subst he
          go_wp2
          go_ret
          exact Tells.no NN.out WF.out.b
        · have he' : (ev == -1) = false := by simpa using he
          clear he
          go_wp2
          go_ret
          exact Tells.no NN.out WF.out.b
      have c4' : (reason == 4) = false := by simpa using c4
      clear c4
      by_cases c3 : reason = 3
      · subst c3
        by_cases he : ev = -1
        · subst he
          cases a
          · go_wp2
            go_ret
            exact Tells.no (fun h => by rcases h.2 with h | h | h <;> first | exact absurd (HNA.out.2 h.2.2.2) (by simp) | exact absurd h.1 (by simp)) WF.out.b
          · go_wp2_with fail
            refine (phas_c A2 c2 mr st _ ((HP.out.below WF.out.b).au.mr) (HP.out.au.lmk)).mono ?_
            intro e w3 hss; rcases hss.no1 with ⟨rfl, S, rfl⟩ | ⟨rfl, S, rfl⟩
            · clear hss
              go_wp2
              go_ret
              exact Tells.yes ⟨HRK.out, .inr (.inr ⟨rfl, rfl, S.out, HNA.out.1 (by simp)⟩)⟩ WF.out.b
            · clear hss
              go_wp2
              go_ret
              exact Tells.no (fun h => by rcases h.2 with h | h | h <;> first | exact h.2.2.1 S.out | exact absurd h.1 (by simp)) WF.out.b
        · have he' : (ev == -1) = false := by simpa using he
          have HE := Lib.hid he
          clear he
          go_wp2
          go_ret
          exact Tells.no (fun h => by rcases h.2 with h | h | h <;> first | exact HE.out h.2.1 | exact absurd h.1 (by simp)) WF.out.b
      have c3' : (reason == 3) = false := by simpa using c3
      have D3 := Lib.hid c3
      clear c3
      go_wp2
      go_ret
      exact Tells.no (fun h => by rcases h.2 with h | h | h <;> first | exact D1.out h.1 | exact D2.out h.1 | exact D3.out h.1) WF.out.b
end Go.Proofs.Ytkbmenpggiojeaa
