/-
  The law's own proof of the kept states (chapter 46): the walk.
-/
import Derived.Test.YtkbmenpggiojeaaNi
namespace Go.Proofs.Ytkbmenpggiojeaa
open Go.RowKit
set_option linter.unusedSimpArgs false
set_option linter.unusedVariables false
set_option maxRecDepth 100000

theorem ProvS.next {V wx wy : World} {gk gr n : Nat} {kp rp : List Int} (D : ProvS V wx gk gr n kp rp) (hb : Below wx.heap.size wx wy) : ProvS V wy gk gr n kp rp :=
  ⟨D.bk.below hb D.bk.lt, D.br.below hb D.br.lt, D.ne, D.lk, D.lr, D.below.trans (hb.mono D.below.size)⟩
def rmOk0 (n : Nat) (kept : List Int) (rms : List Rm) (j : Nat) : Prop := ∀ r, rms[j]? = some r → 0 ≤ r.st ∧ r.st < n ∧ r.st ∉ kept ∧ (∀ r', 0 < j → rms[j-1]? = some r' → r'.st < r.st)

set_option maxHeartbeats 4000000 in
theorem proves46_c (al mr : List Int) (n : Nat) (ed : List Ed) (forb unc : List Int) (p : PrP) (kept dist : List Int) (rms : List Rm) (cp : CeP) (w : World) (hp : PrAt w ⟨al, n, mr, ed⟩ forb unc p) (hc : CeAt w kept dist rms cp) (hq : PrRight ⟨al, n, mr, ed⟩ forb unc) :
    Calls Try.prog 65 #[.agg (tpCells ⟨al, n, mr, ed⟩ forb unc p).toArray, .agg (ceList kept dist rms cp).toArray] w (Tells (KeptOk ⟨al, n, mr, ed⟩ forb unc kept dist rms) w) := by
  have W0 : Hid (Fro w.heap.size w ((w.alloc (.cells (tpCells ⟨al, n, mr, ed⟩ forb unc p).toArray 86)).alloc (.cells (ceList kept dist rms cp).toArray 81))) := ((Fro.here w).alloc _).alloc _
  have C1 : Hid (HasAt w.heap.size (tpCells ⟨al, n, mr, ed⟩ forb unc p) ((w.alloc (.cells (tpCells ⟨al, n, mr, ed⟩ forb unc p).toArray 86)).alloc (.cells (ceList kept dist rms cp).toArray 81))) := (HasAt.new w _ _ rfl).alloc _
  have C2 : Hid (HasAt (w.heap.size + 1) (ceList kept dist rms cp) ((w.alloc (.cells (tpCells ⟨al, n, mr, ed⟩ forb unc p).toArray 86)).alloc (.cells (ceList kept dist rms cp).toArray 81))) := HasAt.new _ _ _ (by simp)
  have HP := Lib.hid hp
  have HC := Lib.hid hc
  have HR := Lib.hid hq
  have lk := hc.lk
  have ld := hc.ld
  have lr := hc.lr
  have ln : (n : Int) ≤ 4096 := hq.ha.n1
  clear hp hc hq
  obtain ⟨⟨A1, c1, A2, c2, A3, c3⟩, AF, cF, AU, cU⟩ := p
  obtain ⟨AK, cK, AD, cD, AR, cR⟩ := cp
  have hmk := make_run (P := Try.prog) 36 3 (.int .i64 0) 8 Try.underlying36 intInfo rfl n (by omega) (by omega)
  dsimp only [tpCells, ceList] at *
  go_enter Try.func65, Try.ntmps65
  go_upto_region 1 with fail
  generalize hW : ((w.alloc (.cells #[.slice A1 al.length c1, .int .i64 n, .slice A2 mr.length c2, .slice A3 ed.length c3, .slice AF forb.length cF, .slice AU unc.length cU, .slice none 0 0, .int .i64 (-1)] 86)).alloc (.cells #[.slice AK kept.length cK, .slice AD dist.length cD, .slice AR rms.length cR] 81)) = W at *
  clear hW
  have q1 := C1.out.c 1 _ rfl
  have r0 := C2.out.c 0 _ rfl
  have r1 := C2.out.c 1 _ rfl
  have r2 := C2.out.c 2 _ rfl
  have hz0 := C1.out.z
  have hz1 := C2.out.z
  by_cases hlen : kept.length + rms.length = n
  rotate_left
  · have hlen' : ((kept.length : Int) + (rms.length : Int) != (n : Int)) = true := by simp; omega
    go_wp2
    go_ret
    exact Tells.no (fun h => hlen h.dv.len) W0.out.b
  have hlen' : ((kept.length : Int) + (rms.length : Int) != (n : Int)) = false := by simp; omega
  by_cases hld : dist.length = kept.length
  rotate_left
  · have hld' : ((dist.length : Int) != (kept.length : Int)) = true := by simp; omega
    go_wp2
    go_ret
    exact Tells.no (fun h => hld h.ld) W0.out.b
  have hld' : ((dist.length : Int) != (kept.length : Int)) = false := by simp; omega
  have HLEN := Lib.hid hlen
  have HLD := Lib.hid hld
  clear hlen hld
  go_upto_region 4 with fail
  go_cut [6, 7] (fun s6 s7 wx => ∃ gk gr, s6 = .slice (some ⟨gk, 0, none⟩) n n ∧ s7 = .slice (some ⟨gr, 0, none⟩) n n ∧ Hid (ProvS W wx gk gr n (List.replicate n 0) (List.replicate n 0)))
  case first =>
    go_region
    all_goals (go_wp2_with fail; go_meet)
    all_goals first
    | exact ⟨W.heap.size, W.heap.size + 1, rfl, rfl, by unfold BlkAt; rw [repI]; exact (heap2 W _ _).1, by unfold BlkAt; rw [repI]; exact (heap2 W _ _).2, by omega, by omega, by omega, ((Below.new W _).alloc (by simp) _).drew⟩
    | exact ⟨W.heap.size + 1, W.heap.size, rfl, rfl, by unfold BlkAt; rw [repI]; exact (heap2 W _ _).2, by unfold BlkAt; rw [repI]; exact (heap2 W _ _).1, by omega, by omega, by omega, ((Below.new W _).alloc (by simp) _).drew⟩
  case rest =>
    obtain ⟨gk, gr, rfl, rfl, D⟩ := hcut
    clear hmk q1 r0 r1 r2
    go_wp2_with fail
    go_loopw [8] (fun i wr => ∃ (k : Nat) (kp rp : List Int), k ≤ n ∧ i = .int .i64 k ∧ Hid (ProvS W wr gk gr n kp rp) ∧ kp.length = n ∧ rp.length = n ∧ Hid (∀ j, j < k → kp[j]? = some (-1) ∧ rp[j]? = some (-1))) (fun i _ => n - (intOf i).toNat)
    case atStart => exact ⟨0, _, _, by omega, rfl, D, by simp, by simp, fun j h => absurd h (by omega)⟩
    case round =>
      obtain ⟨k, kp, rp, hk, rfl, D2, l1, l2, M⟩ := hrel
      clear D
      by_cases hlt : k < n
      · obtain ⟨y1, hkp⟩ : ∃ y, kp[k]? = some y := ⟨_, List.getElem?_eq_getElem (by omega)⟩
        obtain ⟨y2, hrp⟩ : ∃ y, rp[k]? = some y := ⟨_, List.getElem?_eq_getElem (by omega)⟩
        have k0 := D2.out.kcell hkp
        have p0 := D2.out.rcell hrp
        have kf := D2.out.bk.free k
        have pf := D2.out.br.free k
        have nkr : ¬ gk = gr := D2.out.ne
        clear hkp hrp
        go_wp2
        go_roundw
        case rel => exact ⟨k + 1, _, _, by omega, by go_num, (D2.out.setK k (-1)).setR k (-1), by simp [l1], by simp [l2], fun j hj => by
          by_cases e : j = k
          · subst e; exact ⟨by rw [List.getElem?_set_self (by omega)], by rw [List.getElem?_set_self (by omega)]⟩
          · rw [List.getElem?_set_ne (by omega), List.getElem?_set_ne (by omega)]; exact M.out j (by omega)⟩
        case measure => simp [intOf]; omega
      obtain rfl : k = n := by omega
      have PK : Hid (PlUp k kept 0 kp) := ⟨l1, fun i hi => .inr ⟨(M.out i hi).1, fun j h => absurd h (by omega)⟩⟩
      have PR : Hid (PlUp k (rms.map (·.st)) 0 rp) := ⟨l2, fun i hi => .inr ⟨(M.out i hi).2, fun j h => absurd h (by omega)⟩⟩
      clear M l1 l2
      go_wp2_with fail
      go_loopw [9] (fun i wx => ∃ (m : Nat) (kp : List Int), m ≤ kept.length ∧ i = .int .i64 m ∧ Hid (ProvS W wx gk gr k kp rp) ∧ Hid (PlUp k kept m kp) ∧ Hid (setOk kept k m)) (fun i _ => kept.length - (intOf i).toNat)
      case atStart => exact ⟨0, _, by omega, rfl, D2, PK, fun i x h => absurd h (by omega)⟩
      case round =>
        obtain ⟨m, kp2, hm, rfl, D3, M, S⟩ := hrel
        clear D2 PK
        have E2 := Lib.hid (C2.out.below D3.out.below)
        have WF := Lib.hid (W0.out.next D3.out.below)
        have r0 := E2.out.c 0 _ rfl
        have hz2 := E2.out.z
        by_cases hlt : m < kept.length
        · obtain ⟨b, off, x, hAK, hb, hx, hcx⟩ := IntsAt.at ((HC.out.below WF.out.b).hk) hlt
          dsimp only at hAK
          subst hAK
          have HX := Lib.hid hx
          clear hx
          by_cases hx0 : x < 0
          · have h1 : decide (x < 0) = true := by simpa using hx0
            go_wp2
            go_ret
            exact Tells.no (fun h => setOk.not1 HX.out hlt (by omega) h.dv.hk) WF.out.b
          have h1 : decide (x < 0) = false := by simpa using hx0
          by_cases hxn : (k : Int) ≤ x
          · have h2 : decide ((k : Int) ≤ x) = true := by simpa using hxn
            go_wp2
            go_ret
            exact Tells.no (fun h => setOk.not1 HX.out hlt (by simp only [Int.toNat_natCast]; omega) h.dv.hk) WF.out.b
          have h2 : decide ((k : Int) ≤ x) = false := by simpa using hxn
          obtain ⟨xi, rfl⟩ := Int.eq_ofNat_of_zero_le (show 0 ≤ x by omega)
          obtain ⟨y1, hkp⟩ : ∃ y, kp2[xi]? = some y := ⟨_, List.getElem?_eq_getElem (by have := M.out.ln; omega)⟩
          have k0 := D3.out.kcell hkp
          have kf := D3.out.bk.free xi
          clear hkp
          by_cases hm0 : m = 0
          · subst hm0
            rw [Nat.add_zero] at hcx
            go_wp2
            go_roundw
            case rel => exact ⟨1, _, by omega, by go_num, D3.out.setK xi 0, M.out.step HX.out (by omega), S.out.step HX.out (by omega) (by omega) (fun y h => absurd h (by omega))⟩
            case measure => simp [intOf]; omega
          · obtain ⟨y, hy, hcy⟩ := IntsAt.more ((HC.out.below WF.out.b).hk) (k := m - 1) (by omega)
            have HY := Lib.hid hy
            clear hy
            have h3 : decide ((0 : Int) < (m : Int)) = true := by simp; omega
            by_cases hxy : (xi : Int) ≤ y
            · have h4 : decide ((xi : Int) ≤ y) = true := by simpa using hxy
              go_wp2
              go_ret
              exact Tells.no (fun h => setOk.not2 HX.out hlt (by omega) HY.out hxy h.dv.hk) WF.out.b
            · have h4 : decide ((xi : Int) ≤ y) = false := by simpa using hxy
              go_wp2
              go_roundw
              case rel => exact ⟨m + 1, _, by omega, by go_num, D3.out.setK xi m, M.out.step HX.out (by omega), S.out.step HX.out (by omega) (by omega) (fun z h hz => by rw [HY.out] at hz; cases hz; omega)⟩
              case measure => simp [intOf]; omega
        · obtain rfl : m = kept.length := by omega
          have PL := Lib.hid (M.out.fin S.out.incr)
          clear M
          go_wp2_with fail
          go_loopw [11] (fun i wx => ∃ (m : Nat) (rp : List Int), m ≤ rms.length ∧ i = .int .i64 m ∧ Hid (ProvS W wx gk gr k kp2 rp) ∧ Hid (PlUp k (rms.map (·.st)) m rp) ∧ Hid (∀ j, j < m → rmOk0 k kept rms j)) (fun i _ => rms.length - (intOf i).toNat)
          case atStart => exact ⟨0, _, by omega, rfl, D3, PR, fun i h => absurd h (by omega)⟩
          case round =>
            obtain ⟨m, rp2, hm, rfl, D4, M, Q⟩ := hrel
            clear D3 PR E2 WF r0 hz2
            have E2 := Lib.hid (C2.out.below D4.out.below)
            have WF := Lib.hid (W0.out.next D4.out.below)
            have r2 := E2.out.c 2 _ rfl
            have hz2 := E2.out.z
            by_cases hlt : m < rms.length
            · obtain ⟨r, hr⟩ : ∃ r, rms[m]? = some r := ⟨_, List.getElem?_eq_getElem hlt⟩
              obtain ⟨b, off, hAR, hb, hc0, _, _, _⟩ := RmsAt.get ((HC.out.below WF.out.b).hr) hr
              dsimp only at hAR
              subst hAR
              obtain ⟨x, rank, reason, ev⟩ := r
              dsimp only at hc0
              have HX := Lib.hid hr
              clear hr
              have bad : Hid (¬ rmOk0 k kept rms m → ¬ KeptOk ⟨al, k, mr, ed⟩ forb unc kept dist rms) := fun h hk => h (fun r hr => by
                have := hk.dv.hr m hlt r hr
                simp only [Int.toNat_natCast] at this
                exact ⟨this.1, this.2.1, this.2.2.1, this.2.2.2.2⟩)
              by_cases hx0 : x < 0
              · have h1 : decide (x < 0) = true := by simpa using hx0
                go_wp2
                go_ret
                exact Tells.no (bad.out fun h => by have := (h _ HX.out).1; simp only at this; omega) WF.out.b
              have h1 : decide (x < 0) = false := by simpa using hx0
              by_cases hxn : (k : Int) ≤ x
              · have h2 : decide ((k : Int) ≤ x) = true := by simpa using hxn
                go_wp2
                go_ret
                exact Tells.no (bad.out fun h => by have := (h _ HX.out).2.1; simp only at this; omega) WF.out.b
              have h2 : decide ((k : Int) ≤ x) = false := by simpa using hxn
              obtain ⟨xi, rfl⟩ := Int.eq_ofNat_of_zero_le (show 0 ≤ x by omega)
              obtain ⟨v, hkp, hv⟩ : ∃ v, kp2[xi]? = some v ∧ (v = -1 ∧ (xi : Int) ∉ kept ∨ 0 ≤ v ∧ (xi : Int) ∈ kept) := by
                rcases PL.out.at_ xi (by omega) with ⟨j, a, b⟩ | ⟨a, b⟩
                · exact ⟨_, a, .inr ⟨by omega, List.mem_of_getElem? b⟩⟩
                · exact ⟨_, a, .inl ⟨rfl, b⟩⟩
              have k0 := D4.out.kcell hkp
              clear hkp
              obtain ⟨y1, hrp⟩ : ∃ y, rp2[xi]? = some y := ⟨_, List.getElem?_eq_getElem (by have := M.out.ln; omega)⟩
              have p0 := D4.out.rcell hrp
              have pf := D4.out.br.free xi
              clear hrp
              have MST : Hid ((rms.map (·.st))[m]? = some (xi : Int)) := st_get.2 ⟨_, HX.out, rfl⟩
              have stepQ : Hid (rmOk0 k kept rms m → ∀ j, j < m + 1 → rmOk0 k kept rms j) := fun h j hj => by
                by_cases e : j = m
                · subst e; exact h
                · exact Q.out j (by omega)
              by_cases hm0 : m = 0
              · subst hm0
                rw [Nat.zero_mul, Nat.add_zero] at hc0
                rcases hv with ⟨rfl, hv⟩ | ⟨h0, hv⟩
                · have HV := Lib.hid hv
                  clear hv
                  go_wp2
                  go_roundw
                  case rel => exact ⟨1, _, by omega, by go_num, D4.out.setR xi 0, M.out.step MST.out (by omega), stepQ.out (fun r hr => by rw [HX.out] at hr; cases hr; exact ⟨by simp only; omega, by simp only; omega, HV.out, fun r' h => absurd h (by omega)⟩)⟩
                  case measure => simp [intOf]; omega
                · have HV := Lib.hid hv
                  clear hv
                  have h5 : decide (0 ≤ v) = true := by simpa using h0
                  go_wp2
                  go_ret
                  exact Tells.no (bad.out fun h => (h _ HX.out).2.2.1 HV.out) WF.out.b
              · obtain ⟨r', hr'⟩ : ∃ r', rms[m - 1]? = some r' := ⟨_, List.getElem?_eq_getElem (by omega)⟩
                obtain ⟨b', off', hAR', _, hc1, _, _, _⟩ := RmsAt.get ((HC.out.below WF.out.b).hr) hr'
                cases hAR'
                obtain ⟨y, rank', reason', ev'⟩ := r'
                dsimp only at hc1
                have HY := Lib.hid hr'
                clear hr'
                have h3 : decide ((0 : Int) < (m : Int)) = true := by simp; omega
                by_cases hxy : (xi : Int) ≤ y
                · have h4 : decide ((xi : Int) ≤ y) = true := by simpa using hxy
                  go_wp2
                  go_ret
                  exact Tells.no (bad.out fun h => by have := (h _ HX.out).2.2.2 _ (by omega) HY.out; simp only at this; omega) WF.out.b
                have h4 : decide ((xi : Int) ≤ y) = false := by simpa using hxy
                rcases hv with ⟨rfl, hv⟩ | ⟨h0, hv⟩
                · have HV := Lib.hid hv
                  clear hv
                  go_wp2
                  go_roundw
                  case rel => exact ⟨m + 1, _, by omega, by go_num, D4.out.setR xi m, M.out.step MST.out (by omega), stepQ.out (fun r hr => by rw [HX.out] at hr; cases hr; exact ⟨by simp only; omega, by simp only; omega, HV.out, fun r' h hh => by rw [HY.out] at hh; cases hh; simp only; omega⟩)⟩
                  case measure => simp [intOf]; omega
                · have HV := Lib.hid hv
                  clear hv
                  have h5 : decide (0 ≤ v) = true := by simpa using h0
                  go_wp2
                  go_ret
                  exact Tells.no (bad.out fun h => (h _ HX.out).2.2.1 HV.out) WF.out.b
            · obtain rfl : m = rms.length := by omega
              go_wp2_with fail
              go_loopw [13] (fun i wx => ∃ m : Nat, m ≤ kept.length ∧ i = .int .i64 m ∧ Hid (ProvS W wx gk gr k kp2 rp2) ∧ Hid (∀ (j : Nat) (i d : Int), j < m → kept[j]? = some i → dist[j]? = some d → keepsS forb unc mr kept dist (outOf ed i.toNat) i d)) (fun i _ => kept.length - (intOf i).toNat)
              case atStart => exact ⟨0, by omega, rfl, D4, fun j i d h => absurd h (by omega)⟩
              case round =>
                obtain ⟨m, hm, rfl, D5, KS⟩ := hrel
                clear D4
                have E1 := Lib.hid (C1.out.below D5.out.below)
                have E2 := Lib.hid (C2.out.below D5.out.below)
                have WF := Lib.hid (W0.out.next D5.out.below)
                have q0 := E1.out.c 0 _ rfl
                have q1 := E1.out.c 1 _ rfl
                have q2 := E1.out.c 2 _ rfl
                have q3 := E1.out.c 3 _ rfl
                have q4 := E1.out.c 4 _ rfl
                have q5 := E1.out.c 5 _ rfl
                have q6 := E1.out.c 6 _ rfl
                have q7 := E1.out.c 7 _ rfl
                have r0 := E2.out.c 0 _ rfl
                have r1 := E2.out.c 1 _ rfl
                have r2 := E2.out.c 2 _ rfl
                have hz1 := E1.out.z
                have hz2 := E2.out.z
                by_cases hlt : m < kept.length
                · obtain ⟨x, hx⟩ : ∃ x, kept[m]? = some x := ⟨_, List.getElem?_eq_getElem hlt⟩
                  obtain ⟨d, hd⟩ : ∃ d, dist[m]? = some d := ⟨_, List.getElem?_eq_getElem (by have := HLD.out; omega)⟩
                  obtain ⟨x0, x1, _⟩ := S.out m x hlt hx
                  obtain ⟨xi, rfl⟩ := Int.eq_ofNat_of_zero_le x0
                  have KC := keeps46_c ⟨al, k, mr, ed⟩ forb unc ⟨⟨A1, c1, A2, c2, A3, c3⟩, AF, cF, AU, cU⟩ kept dist rms ⟨AK, cK, AD, cD, AR, cR⟩ (some ⟨gk, 0, none⟩) k kp2 m xi d wr (HP.out.below WF.out.b) (HC.out.below WF.out.b) HR.out.ha (SlAt.of_blk (enc := Value.int .i64) (T := 3) D5.out.bk) PL.out.ok HLD.out hx hd
                  rw [PL.out.ln, keeps46_iff PL.out HLD.out (fun y hy => by
                    obtain ⟨t, ht, rfl⟩ := List.mem_iff_getElem.1 hy
                    have := HR.out.ha.ed t ht _ (List.getElem?_eq_getElem ht)
                    exact ⟨this.2.2.1, this.2.2.2.1⟩)] at KC
                  dsimp only [tpCells, ceList] at KC
                  have HX := Lib.hid hx
                  have HD := Lib.hid hd
                  have HKC := Lib.hid KC
                  clear hx hd KC
                  go_wp2_with fail
                  refine HKC.out.mono ?_
                  intro e w3 hs
                  rcases hs.no1 with ⟨rfl, T, B3⟩ | ⟨rfl, T, B3⟩
                  · clear hs
                    have B4 := Lib.hid (WF.out.b.trans (B3.mono WF.out.b.size))
                    clear B3
                    go_wp2
                    go_ret
                    exact Tells.no (fun h => T (by have := h.ks m xi d HX.out HD.out; simpa only [Int.toNat_natCast] using this)) B4.out
                  · clear hs
                    have D6 := Lib.hid (D5.out.next B3)
                    clear B3
                    go_wp2
                    go_roundw
                    case rel => exact ⟨m + 1, by omega, by go_num, D6, fun j i d' hj h1 h2 => by
                      by_cases e : j = m
                      · subst e; rw [HX.out] at h1; rw [HD.out] at h2; cases h1; cases h2; rw [Int.toNat_natCast]; exact T
                      · exact KS.out j i d' (by omega) h1 h2⟩
                    case measure => simp [intOf]; omega
                · obtain rfl : m = kept.length := by omega
                  have KSF : Hid (∀ (j : Nat) (i d : Int), kept[j]? = some i → dist[j]? = some d → keepsS forb unc mr kept dist (outOf ed i.toNat) i d) := fun j i d h1 h2 => KS.out j i d (List.getElem?_eq_some_iff.1 h1).1 h1 h2
                  have SR : setOk (rms.map (·.st)) k (rms.map (·.st)).length := fun i x hi hx => by
                    obtain ⟨q, hq, rfl⟩ := st_get.1 hx
                    have := Q.out i (by rw [List.length_map] at hi; exact hi) q hq
                    exact ⟨this.1, this.2.1, fun y h0 hy => by obtain ⟨q', hq', rfl⟩ := st_get.1 hy; exact this.2.2.2 q' h0 hq'⟩
                  have PL2 := Lib.hid (PlUp.fin (l := rms.map (·.st)) (by rw [List.length_map]; exact M.out) SR.incr)
                  clear KS SR M q0 q1 q2 q3 q4 q5 q6 q7 r1
                  go_wp2_with fail
                  go_loopw [14] (fun i wx => ∃ m : Nat, m ≤ rms.length ∧ i = .int .i64 m ∧ Hid (ProvS W wx gk gr k kp2 rp2) ∧ Hid (∀ (j : Nat) (r : Rm), j < m → rms[j]? = some r → 1 ≤ r.rank ∧ removesP forb unc mr rms (outOf ed r.st.toNat) r)) (fun i _ => rms.length - (intOf i).toNat)
                  case atStart => exact ⟨0, by omega, rfl, D5, fun j r h => absurd h (by omega)⟩
                  case round =>
                    obtain ⟨m, hm, rfl, D7, RS⟩ := hrel
                    clear D5 E1 E2 WF hz1 hz2 r2 r0
                    have E1 := Lib.hid (C1.out.below D7.out.below)
                    have E2 := Lib.hid (C2.out.below D7.out.below)
                    have WF := Lib.hid (W0.out.next D7.out.below)
                    have q0 := E1.out.c 0 _ rfl
                    have q1 := E1.out.c 1 _ rfl
                    have q2 := E1.out.c 2 _ rfl
                    have q3 := E1.out.c 3 _ rfl
                    have q4 := E1.out.c 4 _ rfl
                    have q5 := E1.out.c 5 _ rfl
                    have q6 := E1.out.c 6 _ rfl
                    have q7 := E1.out.c 7 _ rfl
                    have r0 := E2.out.c 0 _ rfl
                    have r1 := E2.out.c 1 _ rfl
                    have r2 := E2.out.c 2 _ rfl
                    have hz1 := E1.out.z
                    have hz2 := E2.out.z
                    by_cases hlt : m < rms.length
                    · obtain ⟨r, hr⟩ : ∃ r, rms[m]? = some r := ⟨_, List.getElem?_eq_getElem hlt⟩
                      have hst := (Q.out m hlt r hr).1
                      obtain ⟨xi, hxi⟩ := Int.eq_ofNat_of_zero_le hst
                      have KC := removes46_c ⟨al, k, mr, ed⟩ forb unc ⟨⟨A1, c1, A2, c2, A3, c3⟩, AF, cF, AU, cU⟩ kept dist rms ⟨AK, cK, AD, cD, AR, cR⟩ (some ⟨gr, 0, none⟩) k rp2 m r wr (HP.out.below WF.out.b) (HC.out.below WF.out.b) HR.out.ha (SlAt.of_blk (enc := Value.int .i64) (T := 3) D7.out.br) (by have := PL2.out.ok; rw [List.length_map] at this; exact this) hr
                      rw [PL2.out.ln, rem46_iff PL2.out (fun y hy => by
                        obtain ⟨t, ht, rfl⟩ := List.mem_iff_getElem.1 hy
                        have := HR.out.ha.ed t ht _ (List.getElem?_eq_getElem ht)
                        exact ⟨this.2.2.1, this.2.2.2.1⟩) hxi, show xi = r.st.toNat by omega] at KC
                      dsimp only [tpCells, ceList] at KC
                      have HX := Lib.hid hr
                      have HKC := Lib.hid KC
                      clear hr hxi hst KC
                      go_wp2_with fail
                      refine HKC.out.mono ?_
                      intro e w3 hs
                      rcases hs.no1 with ⟨rfl, T, B3⟩ | ⟨rfl, T, B3⟩
                      · clear hs
                        have B4 := Lib.hid (WF.out.b.trans (B3.mono WF.out.b.size))
                        clear B3
                        go_wp2
                        go_ret
                        exact Tells.no (fun h => T ⟨(h.dv.hr m hlt r HX.out).2.2.2.1, h.rs r (List.mem_of_getElem? HX.out)⟩) B4.out
                      · clear hs
                        have D6 := Lib.hid (D7.out.next B3)
                        clear B3
                        go_wp2
                        go_roundw
                        case rel => exact ⟨m + 1, by omega, by go_num, D6, fun j r' hj h1 => by
                          by_cases e : j = m
                          · subst e; rw [HX.out] at h1; cases h1; exact T
                          · exact RS.out j r' (by omega) h1⟩
                        case measure => simp [intOf]; omega
                    · obtain rfl : m = rms.length := by omega
                      go_wp2
                      go_ret
                      exact Tells.yes ⟨HR.out, HLD.out, ⟨S.out, HLEN.out, fun j hj r hr => ⟨(Q.out j hj r hr).1, (Q.out j hj r hr).2.1, (Q.out j hj r hr).2.2.1, (RS.out j r hj hr).1, (Q.out j hj r hr).2.2.2⟩⟩, KSF.out, fun r hr => by
                        obtain ⟨j, hj, rfl⟩ := List.mem_iff_getElem.1 hr
                        exact (RS.out j _ hj (List.getElem?_eq_getElem hj)).2⟩ WF.out.b
end Go.Proofs.Ytkbmenpggiojeaa
