/-
  The law's own proof of a kept state (chapter 46).
-/
import Derived.Test.YtkbmenpggiojeaaNe
import Derived.Test.YtkbmenpggiojeaaMk
import Derived.Deep.QuietTactic
import Derived.BigQuiet
namespace Go.Proofs.Ytkbmenpggiojeaa
open Go.RowKit
set_option linter.unusedSimpArgs false
set_option linter.unusedVariables false
set_option maxRecDepth 100000

theorem phas_c (A : Option Addr) (c : Nat) (l : List Int) (x : Int) (w : World) (h : IntsAt w A l) (hl : l.length ≤ 140737488355328) :
    Calls Try.prog 108 #[.slice A l.length c, .int .i64 x] w (Says (x ∈ l) w) := by
  go_enter Try.func108, Try.ntmps108
  go_wp2
  go_loop [5] (fun i => ∃ k : Nat, k ≤ l.length ∧ i = .int .i64 k ∧ Hid (∀ j y, j < k → l[j]? = some y → y ≠ x)) (fun i => l.length - (intOf i).toNat)
  case atStart => exact ⟨0, by omega, rfl, fun i x h => absurd h (by omega)⟩
  case round =>
    obtain ⟨k, hk, rfl, H⟩ := hrel
    by_cases hlt : k < l.length
    · obtain ⟨b, off, y, rfl, _, hy, hcy⟩ := IntsAt.at h hlt
      by_cases hyx : y = x
      · have HM := Lib.hid (List.mem_of_getElem? hy)
        have hyx' : (y == x) = true := by simpa using hyx
        have HYX := Lib.hid hyx
        clear hy hyx
        go_wp2
        go_ret
        exact Says.yes (HYX.out ▸ HM.out) rfl
      · have hyx' : (y == x) = false := by simpa using hyx
        have HYX := Lib.hid hyx
        have HY := Lib.hid hy
        clear hyx hy
        go_wp2
        go_round
        case rel => exact ⟨k + 1, by omega, by go_num, fun j z hj hz => by
          by_cases e : j = k
          · subst e; rw [HY.out] at hz; cases hz; exact HYX.out
          · exact H.out j z (by omega) hz⟩
        case measure => simp [intOf]; omega
    · obtain rfl : k = l.length := by omega
      go_wp2
      go_ret
      exact Says.no (notIn_all H.out) rfl


/-- Where a timed problem's lists lie: forcible events: none; the tick: -1. -/
abbrev tpCells (au : Au) (forb unc : List Int) (p : PrP) : List Value := [.slice p.a.A1 au.al.length p.a.c1, .int .i64 au.n, .slice p.a.A2 au.mr.length p.a.c2, .slice p.a.A3 au.ed.length p.a.c3, .slice p.AF forb.length p.cF, .slice p.AU unc.length p.cU, .slice none 0 0, .int .i64 (-1)]
abbrev ceList (kept dist : List Int) (rms : List Rm) (p : CeP) : List Value := [.slice p.AK kept.length p.cK, .slice p.AD dist.length p.cD, .slice p.AR rms.length p.cR]
/-- What the law asks of one edge of a kept state. -/
def outBad (kp unc : List Int) (x : Int) (y : Ed) : Prop := y.src = x ∧ kp.getD y.dst.toNat 0 < 0 ∧ y.ev ∈ unc
def nearB (kp dist : List Int) (x d : Int) (y : Ed) : Prop := y.src = x ∧ 0 ≤ kp.getD y.dst.toNat 0 ∧ dist.getD (kp.getD y.dst.toNat 0).toNat 0 < d
structure Keeps46 (au : Au) (forb unc dist kp : List Int) (x d : Int) : Prop where
  a : ∀ y, y ∈ au.ed → ¬ outBad kp unc x y
  f : ¬ x ∈ forb
  d0 : 0 ≤ d
  r : d = 0 ∧ x ∈ au.mr ∨ 0 < d ∧ ∃ y, y ∈ au.ed ∧ nearB kp dist x d y
/-- The places of kept states: for each state its place, or -1. -/
structure KpOk (n : Nat) (m : Nat) (kp : List Int) : Prop where
  l : kp.length = n
  r : ∀ (i : Nat) (v : Int), kp[i]? = some v → v = -1 ∨ 0 ≤ v ∧ v < m

set_option maxHeartbeats 4000000 in
theorem keeps46_c (au : Au) (forb unc : List Int) (p : PrP) (kept dist : List Int) (rms : List Rm) (cp : CeP) (KA : Option Addr) (kc : Nat) (kp : List Int) (i : Nat) (x d : Int) (w : World) (hp : PrAt w au forb unc p) (hc : CeAt w kept dist rms cp)
    (hr : au.Right) (hk : IntsAt w KA kp) (ho : KpOk au.n.toNat kept.length kp) (hd : dist.length = kept.length) (hx : kept[i]? = some x) (hdi : dist[i]? = some d) :
    Calls Try.prog 92 #[.agg (tpCells au forb unc p).toArray, .agg (ceList kept dist rms cp).toArray, .slice KA kp.length kc, .int .i64 i] w (Tells (Keeps46 au forb unc dist kp x d) w) := by
  have W0 : Hid (Fro w.heap.size w ((w.alloc (.cells (tpCells au forb unc p).toArray 86)).alloc (.cells (ceList kept dist rms cp).toArray 81))) := ((Fro.here w).alloc _).alloc _
  have C1 : Hid (HasAt w.heap.size (tpCells au forb unc p) ((w.alloc (.cells (tpCells au forb unc p).toArray 86)).alloc (.cells (ceList kept dist rms cp).toArray 81))) := (HasAt.new w _ _ rfl).alloc _
  have C2 : Hid (HasAt (w.heap.size + 1) (ceList kept dist rms cp) ((w.alloc (.cells (tpCells au forb unc p).toArray 86)).alloc (.cells (ceList kept dist rms cp).toArray 81))) := HasAt.new _ _ _ (by simp)
  have HP := Lib.hid hp
  have HC := Lib.hid hc
  have HR := Lib.hid hr
  have HK := Lib.hid hk
  have HO := Lib.hid ho
  have HX := Lib.hid hx
  have HD := Lib.hid hdi
  have HDL := Lib.hid hd
  have il := (List.getElem?_eq_some_iff.1 hx).1
  have il2 := (List.getElem?_eq_some_iff.1 hdi).1
  have lk := hc.lk
  have ld := hc.ld
  have lF := hp.lf
  have lU := hp.lu
  have le := hp.au.led
  clear hp hc hr hk ho hx hdi hd
  obtain ⟨al, n, mr, ed⟩ := au
  obtain ⟨⟨A1, c1, A2, c2, A3, c3⟩, AF, cF, AU, cU⟩ := p
  obtain ⟨AK, cK, AD, cD, AR, cR⟩ := cp
  dsimp only [tpCells, ceList] at *
  go_enter Try.func92, Try.ntmps92
  go_wp2_with fail
  generalize hW : ((w.alloc (.cells #[.slice A1 al.length c1, .int .i64 n, .slice A2 mr.length c2, .slice A3 ed.length c3, .slice AF forb.length cF, .slice AU unc.length cU, .slice none 0 0, .int .i64 (-1)] 86)).alloc (.cells #[.slice AK kept.length cK, .slice AD dist.length cD, .slice AR rms.length cR] 81)) = W at *
  clear hW
  obtain ⟨bK, oK, hAK, hbK, hcK⟩ := IntsAt.found (HC.out.below W0.out.b).hk HX.out
  obtain ⟨bD, oD, hAD, hbD, hcD⟩ := IntsAt.found (HC.out.below W0.out.b).hd HD.out
  dsimp only at hAK hAD
  subst hAK; subst hAD
  have q0 := C2.out.c 0 _ rfl
  have q1 := C2.out.c 1 _ rfl
  go_quiet (fail)
  have WD : Hid (Fro w.heap.size w (W.drewN nq)) := W0.out.draws nq
  have D1 := Lib.hid (C1.out.below ((Below.refl _ W).draws nq))
  have D2 := Lib.hid (C2.out.below ((Below.refl _ W).draws nq))
  generalize hW : W.drewN nq = V at *
  clear hW C1 C2 q0 q1 hcK hcD hbK hbD W0
  have q3 := D1.out.c 3 _ rfl
  have hz0 := D1.out.z
  go_wp2_with fail
  go_loopw [11, 12, 13, 31] (fun s1 s2 s3 j wr => ∃ (k : Nat) (b : Bool), j = .int .i64 k ∧ k ≤ ed.length ∧ s1 = .bool false ∧ s2 = .bool false ∧ s3 = .bool b ∧ Hid (Fro V.heap.size V wr) ∧ Hid (b = true ↔ ∃ m y, m < k ∧ ed[m]? = some y ∧ nearB kp dist x d y) ∧ Hid (∀ m y, m < k → ed[m]? = some y → ¬ outBad kp unc x y)) (fun _ _ _ j _ => ed.length - (intOf j).toNat)
  case atStart => exact ⟨0, false, rfl, by omega, rfl, rfl, rfl, Fro.here V, by simp [Hid], fun m y h => absurd h (by omega)⟩
  case round =>
    obtain ⟨k, b, rfl, hk, rfl, rfl, rfl, BW, HB, HA⟩ := hrel
    have E1 := Lib.hid (D1.out.below BW.out.b)
    have E2 := Lib.hid (D2.out.below BW.out.b)
    have WF := Lib.hid (WD.out.next BW.out.b)
    clear q3 hz0
    have q3 := E1.out.c 3 _ rfl
    have q2 := E1.out.c 2 _ rfl
    have q4 := E1.out.c 4 _ rfl
    have q5 := E1.out.c 5 _ rfl
    have q6 := E1.out.c 6 _ rfl
    have q7 := E1.out.c 7 _ rfl
    have r1 := E2.out.c 1 _ rfl
    have hz0 := E1.out.z
    have hz1 := E2.out.z
    by_cases hlt : k < ed.length
    · obtain ⟨bE, oE, y, hA3, hbE, hy, e0, e1, e2⟩ := EdsAt.at ((HP.out.below WF.out.b).au.ed) hlt
      have HE := Lib.hid (HR.out.ed k hlt y hy)
      obtain ⟨src, ev, dst⟩ := y
      dsimp only at hA3 e0 e1 e2
      subst hA3
      have HY := Lib.hid hy
      clear hy
      have BN : Hid (Fro V.heap.size V (wr.alloc (.cells #[.int .i64 src, .int .i64 ev, .int .i64 dst] 73))) := BW.out.alloc _
      have step : ∀ b' : Bool, (b' = true ↔ b = true ∨ nearB kp dist x d ⟨src, ev, dst⟩) → (b' = true ↔ ∃ m y, m < k + 1 ∧ ed[m]? = some y ∧ nearB kp dist x d y) := fun b' h => by
        rw [h, HB.out]
        constructor
        · rintro (⟨m, y, h1, h2, h3⟩ | h)
          · exact ⟨m, y, by omega, h2, h3⟩
          · exact ⟨k, _, by omega, HY.out, h⟩
        · rintro ⟨m, y, h1, h2, h3⟩
          by_cases e : m = k
          · subst e; rw [HY.out] at h2; cases h2; exact .inr h3
          · exact .inl ⟨m, y, by omega, h2, h3⟩
      have stepA : ¬ outBad kp unc x ⟨src, ev, dst⟩ → ∀ m y, m < k + 1 → ed[m]? = some y → ¬ outBad kp unc x y := fun h m y h1 h2 => by
        by_cases e : m = k
        · subst e; rw [HY.out] at h2; cases h2; exact h
        · exact HA.out m y (by omega) h2
      have HST := Lib.hid step
      have HSA := Lib.hid stepA
      clear step stepA
      by_cases hs : src = x
      · have hs' : (src != x) = false := by simpa using hs
        have hs2 : (src == x) = true := by simpa using hs
        have HSX := Lib.hid hs
        clear hs
        obtain ⟨d0, d1, hev⟩ : 0 ≤ dst ∧ dst < n ∧ 0 ≤ ev := by
          have h := HE.out
          obtain ⟨t, ht, he⟩ := List.mem_iff_getElem.1 h.2.2.2.2.1
          have := HR.out.al t _ ht (List.getElem?_eq_getElem ht)
          rw [he] at this
          exact ⟨h.2.2.1, h.2.2.2.1, this.1⟩
        obtain ⟨dn, rfl⟩ := Int.eq_ofNat_of_zero_le d0
        have hev1 : (ev == -1) = false := by rw [beq_eq_false_iff_ne]; omega
        have hdl : dn < kp.length := by have := HO.out.l; omega
        obtain ⟨bP, oP, v, hKA, _, hv, hcv⟩ := IntsAt.at (HK.out.below IntE.stays WF.out.b) hdl
        subst hKA
        have hvr := HO.out.r dn v hv
        have HGV := Lib.hid (show kp.getD (Int.toNat (dn : Int)) 0 = v by rw [Int.toNat_natCast, List.getD_eq_getElem?_getD, hv]; rfl)
        clear hv
        by_cases hv0 : v < 0
        · have hin : decide (0 ≤ v) = false := by simpa using hv0
          have NN : Hid (¬ nearB kp dist x d ⟨src, ev, (dn : Int)⟩) := fun h => by have := h.2.1; simp only at this; rw [HGV.out] at this; omega
          go_wp2_with fail
          refine (phas_c AU cU unc ev _ ((HP.out.below (WF.out.alloc _).b).hu) (by omega)).mono ?_
          intro e w3 hss; rcases hss.yes1 with ⟨rfl, S, rfl⟩ | ⟨rfl, S, rfl⟩
          · clear hss
            go_wp2
            go_ret
            exact Tells.no (fun h => h.a _ (List.mem_of_getElem? HY.out) ⟨HSX.out, by simp only; rw [HGV.out]; exact hv0, S.out⟩) (WF.out.alloc _).b
          · clear hss
            have NB : Hid (¬ outBad kp unc x ⟨src, ev, (dn : Int)⟩) := fun h => S.out h.2.2
            cases b
            all_goals
              go_wp2_with fail
              go_quiet (fail)
              go_wp2
              go_roundw
              case rel => exact ⟨k + 1, _, by go_num, by omega, rfl, rfl, rfl, BN.out.draws _, HST.out _ (by simp [NN.out]), HSA.out NB.out⟩
              case measure => simp [intOf]; omega
        · have hin : decide (0 ≤ v) = true := by simpa using hv0
          obtain ⟨vn, rfl⟩ := Int.eq_ofNat_of_zero_le (show 0 ≤ v by omega)
          have hvl : vn < dist.length := by have := HDL.out; omega
          obtain ⟨bD2, oD2, v2, hAD, _, hv2, hcv2⟩ := IntsAt.at ((HC.out.below WF.out.b).hd) hvl
          cases hAD
          have NB : Hid (¬ outBad kp unc x ⟨src, ev, (dn : Int)⟩) := fun h => by have := h.2.1; simp only at this; rw [HGV.out] at this; omega
          have NE : Hid (nearB kp dist x d ⟨src, ev, (dn : Int)⟩ ↔ v2 < d) := by
            have e1 : dist.getD (Int.toNat (vn : Int)) 0 = v2 := by rw [Int.toNat_natCast, List.getD_eq_getElem?_getD, hv2]; rfl
            constructor
            · intro h; have := h.2.2; simp only at this; rw [HGV.out, e1] at this; exact this
            · intro h; exact ⟨HSX.out, by simp only; rw [HGV.out]; omega, by simp only; rw [HGV.out, e1]; exact h⟩
          clear hv2
          go_wp2_with fail
          refine (phas_c none 0 [] ev _ SlAt.nil (by simp)).mono ?_
          intro e w3 hss; rcases hss.no1 with ⟨rfl, S, rfl⟩ | ⟨rfl, S, rfl⟩
          · clear hss
            cases b
            all_goals
              go_wp2_with fail
              go_quiet (fail)
              go_wp2
              go_roundw
              case rel => exact ⟨k + 1, _, by go_num, by omega, rfl, rfl, rfl, BN.out.draws _, HST.out _ (by simp [NE.out]), HSA.out NB.out⟩
              case measure => simp [intOf]; omega
          · exact absurd S.out (by simp)
      · have hs' : (src != x) = true := by simpa using hs
        have NN : Hid (¬ nearB kp dist x d ⟨src, ev, dst⟩) := fun h => hs h.1
        have NB : Hid (¬ outBad kp unc x ⟨src, ev, dst⟩) := fun h => hs h.1
        clear hs
        go_wp2
        go_roundw
        case rel => exact ⟨k + 1, b, by go_num, by omega, rfl, rfl, rfl, BN.out, HST.out _ (by simp [NN.out]), HSA.out NB.out⟩
        case measure => simp [intOf]; omega
    · obtain rfl : k = ed.length := by omega
      have HN : Hid (b = true ↔ ∃ y, y ∈ ed ∧ nearB kp dist x d y) := by
        rw [Hid, HB.out]
        constructor
        · rintro ⟨m, y, _, h2, h3⟩; exact ⟨y, List.mem_of_getElem? h2, h3⟩
        · rintro ⟨y, hy, h3⟩
          obtain ⟨m, hm, rfl⟩ := List.mem_iff_getElem.1 hy
          exact ⟨m, _, hm, List.getElem?_eq_getElem hm, h3⟩
      have HAL : Hid (∀ y, y ∈ ed → ¬ outBad kp unc x y) := fun y hy => by
        obtain ⟨m, hm, rfl⟩ := List.mem_iff_getElem.1 hy
        exact HA.out m _ hm (List.getElem?_eq_getElem hm)
      clear HB HA
      go_wp2_with fail
      refine (phas_c AF cF forb x _ ((HP.out.below WF.out.b).hf) (by omega)).mono ?_
      intro e w3 hss; rcases hss.yes1 with ⟨rfl, S, rfl⟩ | ⟨rfl, S, rfl⟩
      · clear hss
        go_wp2
        go_ret
        exact Tells.no (fun h => h.f S.out) WF.out.b
      clear hss
      by_cases hd0 : d < 0
      · go_wp2
        go_ret
        exact Tells.no (fun h => by have := h.d0; omega) WF.out.b
      by_cases hd1 : d = 0
      · subst hd1
        go_wp2_with fail
        refine (phas_c A2 c2 mr x _ ((HP.out.below WF.out.b).au.mr) (HP.out.au.lmk)).mono ?_
        intro e w3 hss; rcases hss.yes1 with ⟨rfl, S2, rfl⟩ | ⟨rfl, S2, rfl⟩
        · clear hss
          go_wp2
          go_ret
          exact Tells.yes ⟨HAL.out, S.out, by omega, .inl ⟨rfl, S2.out⟩⟩ WF.out.b
        · clear hss
          go_wp2
          go_ret
          exact Tells.no (fun h => by rcases h.r with h | h; · exact S2.out h.2
                                      · omega) WF.out.b
      · have hd2 : (d == 0) = false := by simpa using hd1
        have hd3 : decide (0 < d) = true := by simp; omega
        have HD1 := Lib.hid hd1
        have HD3 : Hid (0 < d) := by unfold Hid; omega
        clear hd1
        go_wp2
        go_ret
        exact ⟨b, rfl, by rw [HN.out]; exact ⟨fun h => ⟨HAL.out, S.out, by have := HD3.out; omega, .inr ⟨HD3.out, h⟩⟩, fun h => h.r.elim (fun h => absurd h.1 HD1.out) (fun h => h.2)⟩, WF.out.b⟩
end Go.Proofs.Ytkbmenpggiojeaa
