/-
  isBound: what it says.
-/
import Derived.Test.YtkbmenpggiojeaaGb
namespace Go.Proofs.Ytkbmenpggiojeaa
open Go.RowKit
set_option linter.unusedSimpArgs false
set_option linter.unusedVariables false
set_option maxRecDepth 100000

theorem SlMv.get {w : World} {A : Option Addr} {l : List Mv} (h : SlAt MvE 5 w A l) {k : Nat} {x : Mv} (hx : l[k]? = some x) : ∃ b off, A = some ⟨b, off, none⟩ ∧ b < w.heap.size ∧
    w.cell? ⟨b, off + k * 5, none⟩ = some (.int .i64 x.fst) ∧ w.cell? ⟨b, off + k * 5 + 1, none⟩ = some (.int .i64 x.snd) ∧ w.cell? ⟨b, off + k * 5 + 2, none⟩ = some (.int .i64 0) ∧ w.cell? ⟨b, off + k * 5 + 3, none⟩ = some (.bool x.one) ∧ w.cell? ⟨b, off + k * 5 + 4, none⟩ = some (.bool x.flt) := by
  obtain ⟨b, off, y, vs, hA, hlt, hy, _, hE, hc⟩ := SlAt.at h (List.getElem?_eq_some_iff.1 hx).1
  obtain rfl : vs = Mv.cells y := hE
  rw [hx] at hy; cases hy
  exact ⟨b, off, hA, hlt, by simpa using hc 0 _ rfl, hc 1 _ rfl, hc 2 _ rfl, hc 3 _ rfl, hc 4 _ rfl⟩

/-- A move leads to a right pair. -/
def mvOk (l : List Pa) (bound rk : Int) (m : Mv) : Prop := ∃ (k : Nat) (p : Pa), lookV l m.fst m.snd (decide (0 ≤ rk) || m.flt) = k ∧ l[k]? = some p ∧ (rk < 0 → m.flt = true → p.rk < bound) ∧ (0 ≤ rk → m.one = true → p.rk < rk) ∧ (0 ≤ rk → p.rk ≤ rk)
theorem mvOk.of_hit {l : List Pa} {bound rk : Int} {m : Mv} {b : Bool} {k : Nat} {p : Pa} (hb : b = (decide (0 ≤ rk) || m.flt)) (h : lookV l m.fst m.snd b = k) (hp : l[k]? = some p) (h1 : rk < 0 → m.flt = true → p.rk < bound) (h2 : 0 ≤ rk → m.one = true → p.rk < rk) (h3 : 0 ≤ rk → p.rk ≤ rk) : mvOk l bound rk m := by
  subst hb; exact ⟨k, p, h, hp, h1, h2, h3⟩
theorem mvOk.use {l : List Pa} {bound rk : Int} {m : Mv} {b : Bool} {k : Nat} {p : Pa} (hm : mvOk l bound rk m) (hb : b = (decide (0 ≤ rk) || m.flt)) (h : lookV l m.fst m.snd b = k) (hp : l[k]? = some p) : (rk < 0 → m.flt = true → p.rk < bound) ∧ (0 ≤ rk → m.one = true → p.rk < rk) ∧ (0 ≤ rk → p.rk ≤ rk) := by
  subst hb
  obtain ⟨k', p', e1, e2, e3⟩ := hm
  rw [h] at e1
  obtain rfl : k = k' := by omega
  rw [hp] at e2; cases e2
  exact e3
theorem mvOk.hits {l : List Pa} {bound rk : Int} {m : Mv} {b : Bool} (hm : mvOk l bound rk m) (hb : b = (decide (0 ≤ rk) || m.flt)) : lookV l m.fst m.snd b ≠ -1 := by
  subst hb
  obtain ⟨k', p', e1, e2, e3⟩ := hm
  rw [e1]; omega
structure PbOk (evs : List Ev) (ed : List Ed) (n bound : Int) (l : List Pa) (i : Nat) (x : Pa) : Prop where
  in_ : PaIn n x
  un : lookV l x.fst x.snd (decide (0 ≤ x.rk)) = i
  mv : ∀ m, m ∈ movesV evs ed 1 x.fst x.snd ed → mvOk l bound x.rk m
/-- What isBound says. -/
structure IsB (evs : List Ev) (ed : List Ed) (n bound : Int) (l : List Pa) : Prop where
  st : lookV l 0 0 false ≠ -1
  it : ∀ (i : Nat) (x : Pa), l[i]? = some x → PbOk evs ed n bound l i x

set_option maxHeartbeats 8000000 in
theorem isBound_c (AE : Option Addr) (cE : Nat) (evs : List Ev) (au : Au) (p : AuP) (bound : Int) (AL : Option Addr) (cL : Nat) (l : List Pa) (w : World) (hE : EvsAt w AE evs) (hp : Au.At w au p) (lev : evs.length ≤ 140737488355328) (led : au.ed.length ≤ 100000)
    (hin : ∀ y, y ∈ au.ed → 0 ≤ y.ev ∧ y.ev < evs.length) (hb0 : 0 ≤ bound) (hL : PasAt w AL l) (ll : l.length ≤ 140737488355328) :
    Calls Try.prog 12 #[.slice AE evs.length cE, au.val p, .int .i64 1, .int .i64 bound, .slice AL l.length cL] w (Tells (IsB evs au.ed au.n bound l) w) := by
  have HE := Lib.hid hE
  have HP := Lib.hid hp
  have HIN := Lib.hid hin
  have HL := Lib.hid hL
  clear hE hp hin hL
  obtain ⟨al, n, mr, ed⟩ := au
  obtain ⟨A1, c1, A2, c2, A3, c3⟩ := p
  dsimp only [Au.val] at *
  have hb0' : decide (bound < 0) = false := by simpa using hb0
  have W0 : Hid (Fro w.heap.size w (w.alloc (.cells #[.slice A1 al.length c1, .int .i64 n, .slice A2 mr.length c2, .slice A3 ed.length c3] 39))) := (Fro.here w).alloc _
  have D0 : Hid (HasAt w.heap.size [.slice A1 al.length c1, .int .i64 n, .slice A2 mr.length c2, .slice A3 ed.length c3] (w.alloc (.cells #[.slice A1 al.length c1, .int .i64 n, .slice A2 mr.length c2, .slice A3 ed.length c3] 39))) := HasAt.new w _ _ rfl
  go_enter Try.func12, Try.ntmps12
  go_wp2_with fail
  generalize hW : w.alloc (.cells #[.slice A1 al.length c1, .int .i64 n, .slice A2 mr.length c2, .slice A3 ed.length c3] 39) = W at *
  clear hW
  refine (lookup_c AL cL l 0 0 0 false W (HL.out.below PaE.stays W0.out.b) ll).mono ?_
  rintro e w1 ⟨rfl, hb⟩
  have W1 := Lib.hid (W0.out.next hb)
  have D1 := Lib.hid (D0.out.below hb)
  clear hb hb0' W0 D0
  simp only
  rcases lookV_cases l 0 0 false with ⟨hq, _⟩ | ⟨k0, x0, hq, hx0, _, _⟩
  · have HQ := Lib.hid hq
    rw [hq]
    clear hq
    go_wp2
    go_ret
    exact Tells.no (fun h => h.st HQ.out) W1.out.b
  have HQ : Hid (lookV l 0 0 false ≠ -1) := fun h => by rw [hq] at h; omega
  rw [hq]
  have hk0 : decide ((k0 : Int) < 0) = false := by simp
  clear hq hx0
  go_wp2_with fail
  clear hk0
  go_loopw [11] (fun i wr => ∃ k : Nat, k ≤ l.length ∧ i = .int .i64 k ∧ Hid (Fro w1.heap.size w1 wr) ∧ Hid (∀ (j : Nat) (x : Pa), j < k → l[j]? = some x → PbOk evs ed n bound l j x)) (fun i _ => l.length - (intOf i).toNat)
  case atStart => exact ⟨0, by omega, rfl, Fro.here w1, fun j x h => absurd h (by omega)⟩
  case round =>
    obtain ⟨k, hk, rfl, R, H⟩ := hrel
    have RW := Lib.hid (W1.out.trans (R.out.mono W1.out.z))
    by_cases hlt : k < l.length
    · obtain ⟨x, hx⟩ : ∃ x, l[k]? = some x := ⟨_, List.getElem?_eq_getElem hlt⟩
      obtain ⟨bb, off, hAL, hbl, g0, g1, g2⟩ := PasAt.get (HL.out.below PaE.stays RW.out.b) hx
      subst hAL
      obtain ⟨fst, snd, rk⟩ := x
      dsimp only at g0 g1 g2
      have HX := Lib.hid hx
      clear hx
      have HN : Hid (PbOk evs ed n bound l k ⟨fst, snd, rk⟩ → ∀ (j : Nat) (x : Pa), j < k + 1 → l[j]? = some x → PbOk evs ed n bound l j x) := fun hn j y hj hy => by
        by_cases e : j = k
        · subst e; rw [HX.out] at hy; cases hy; exact hn
        · exact H.out j y (by omega) hy
      have NO : Hid (¬ PbOk evs ed n bound l k ⟨fst, snd, rk⟩ → ¬ IsB evs ed n bound l) := fun hn h => hn (h.it k _ HX.out)
      have D2 := Lib.hid (D1.out.below R.out.b)
      have d1 := D2.out.c 1 _ rfl
      have zD := D2.out.z
      have X0 : Hid (HasAt wr.heap.size [.int .i64 fst, .int .i64 snd, .int .i64 rk] (wr.alloc (.cells #[.int .i64 fst, .int .i64 snd, .int .i64 rk] 46))) := HasAt.new wr _ _ rfl
      by_cases a0 : fst < 0
      · have a0' : decide (fst < 0) = true := by simpa using a0
        have NN := Lib.hid (NO.out (fun h => by have := h.in_.f0; simp only at this; omega))
        clear a0
        go_wp2
        go_ret
        exact Tells.no NN.out (RW.out.alloc _).b
      have a0' : decide (fst < 0) = false := by simpa using a0
      by_cases a1 : n ≤ fst
      · have a1' : decide (n ≤ fst) = true := by simpa using a1
        have NN := Lib.hid (NO.out (fun h => by have := h.in_.f1; simp only at this; omega))
        clear a1
        go_wp2
        go_ret
        exact Tells.no NN.out (RW.out.alloc _).b
      have a1' : decide (n ≤ fst) = false := by simpa using a1
      by_cases a2 : snd < 0
      · have a2' : decide (snd < 0) = true := by simpa using a2
        have NN := Lib.hid (NO.out (fun h => by have := h.in_.s0; simp only at this; omega))
        clear a2
        go_wp2
        go_ret
        exact Tells.no NN.out (RW.out.alloc _).b
      have a2' : decide (snd < 0) = false := by simpa using a2
      by_cases a3 : n ≤ snd
      · have a3' : decide (n ≤ snd) = true := by simpa using a3
        have NN := Lib.hid (NO.out (fun h => by have := h.in_.s1; simp only at this; omega))
        clear a3
        go_wp2
        go_ret
        exact Tells.no NN.out (RW.out.alloc _).b
      have a3' : decide (n ≤ snd) = false := by simpa using a3
      by_cases a4 : rk < -1
      · have a4' : decide (rk < -1) = true := by simpa using a4
        have NN := Lib.hid (NO.out (fun h => by have := h.in_.r0; simp only at this; omega))
        clear a4
        go_wp2
        go_ret
        exact Tells.no NN.out (RW.out.alloc _).b
      have a4' : decide (rk < -1) = false := by simpa using a4
      have GIN := Lib.hid (show PaIn n ⟨fst, snd, rk⟩ from ⟨by simp only; omega, by simp only; omega, by simp only; omega, by simp only; omega, by simp only; omega⟩)
      clear a0 a1 a2 a3 a4
      go_wp2_with fail
      clear a0' a1' a2' a3' a4' g0 g1 g2 d1
      have RX := Lib.hid (R.out.alloc (.cells #[.int .i64 fst, .int .i64 snd, .int .i64 rk] 46))
      have DX := Lib.hid (D2.out.alloc (.cells #[.int .i64 fst, .int .i64 snd, .int .i64 rk] 46))
      generalize hWX : wr.alloc (.cells #[.int .i64 fst, .int .i64 snd, .int .i64 rk] 46) = WX at *
      clear hWX
      have RWX := Lib.hid (W1.out.trans (RX.out.mono W1.out.z))
      refine (lookup_c _ cL l fst snd rk (decide (0 ≤ rk)) WX (HL.out.below PaE.stays RWX.out.b) ll).mono ?_
      rintro e w2 ⟨rfl, hb⟩
      have R2 := Lib.hid (RX.out.next hb)
      have D3 := Lib.hid (DX.out.below hb)
      have X2 := Lib.hid (X0.out.below hb)
      clear hb D2 DX X0 RX RWX
      simp only
      by_cases hu : lookV l fst snd (decide (0 ≤ rk)) = k
      rotate_left
      · have hu' : (lookV l fst snd (decide (0 ≤ rk)) != (k : Int)) = true := by simpa using hu
        have NN := Lib.hid (NO.out (fun h => hu h.un))
        clear hu
        generalize lookV l fst snd (decide (0 ≤ rk)) = q at *
        go_wp2
        go_ret
        exact Tells.no NN.out (W1.out.trans (R2.out.mono W1.out.z)).b
      have HU := Lib.hid hu
      rw [hu]
      clear hu
      generalize decide (0 ≤ rk) = bx
      have d0 := D3.out.c 0 _ rfl
      have d1 := D3.out.c 1 _ rfl
      have d2 := D3.out.c 2 _ rfl
      have d3 := D3.out.c 3 _ rfl
      have x0 := X2.out.c 0 _ rfl
      have x1 := X2.out.c 1 _ rfl
      have x2 := X2.out.c 2 _ rfl
      have hkk : ((k : Int) != (k : Int)) = false := by simp
      go_wp2_with fail
      have RW2 := Lib.hid (W1.out.trans (R2.out.mono W1.out.z))
      refine (moves_c AE cE evs ⟨al, n, mr, ed⟩ ⟨A1, c1, A2, c2, A3, c3⟩ 1 fst snd rk w2 (HE.out.below EvE.stays RW2.out.b) (HP.out.below RW2.out.b) lev led HIN.out).mono ?_
      rintro e w3 ⟨AM, cM, rfl, hm, hb⟩
      have R3 := Lib.hid (R2.out.next hb)
      have D4 := Lib.hid (D3.out.below hb)
      have X3 := Lib.hid (X2.out.below hb)
      have MS := Lib.hid (show SlAt MvE 5 w3 AM (movesV evs ed 1 fst snd ed) from Own.reads (fun _ => rfl) hm.out)
      have MV : Hid ((∀ m, m ∈ movesV evs ed 1 fst snd ed → mvOk l bound rk m) → PbOk evs ed n bound l k ⟨fst, snd, rk⟩) := fun h => ⟨GIN.out, HU.out, h⟩
      have MN : Hid (∀ m, m ∈ movesV evs ed 1 fst snd ed → ¬ mvOk l bound rk m → ¬ IsB evs ed n bound l) := fun m hm hn => NO.out (fun h => hn (h.mv m hm))
      have hml := movesV_len evs ed 1 fst snd ed
      dsimp only
      generalize movesV evs ed 1 fst snd ed = ms at *
      clear hb hm d0 d1 d2 d3 x0 x1 x2 R2 D3 X2 RW2 NO GIN HU hkk
      go_wp2_with fail
      go_loopw [86] (fun i wi => ∃ j : Nat, j ≤ ms.length ∧ i = .int .i64 j ∧ Hid (Fro w3.heap.size w3 wi) ∧ Hid (∀ (t : Nat) (m : Mv), t < j → ms[t]? = some m → mvOk l bound rk m)) (fun i _ => ms.length - (intOf i).toNat)
      case atStart => exact ⟨0, by omega, rfl, Fro.here w3, fun j x h => absurd h (by omega)⟩
      case round =>
        obtain ⟨wi, rfl⟩ : ∃ wi : World, wi = wr := ⟨_, rfl⟩
        obtain ⟨j, hj, rfl, RI, HI⟩ := hrel
        have RIw := Lib.hid (W1.out.trans ((R3.out.trans (RI.out.mono R3.out.z)).mono W1.out.z))
        by_cases hjl : j < ms.length
        · obtain ⟨m, hm⟩ : ∃ m, ms[j]? = some m := ⟨_, List.getElem?_eq_getElem hjl⟩
          obtain ⟨bm, om, hAM, hbm, k0, k1, k2, k3, k4⟩ := SlMv.get (MS.out.below MvE.stays RI.out.b) hm
          subst hAM
          obtain ⟨mf, mt, one, flt⟩ := m
          dsimp only at k0 k1 k2 k3 k4
          have XI := Lib.hid (X3.out.below RI.out.b)
          have HM := Lib.hid (List.mem_of_getElem? hm)
          have HIN2 : Hid (mvOk l bound rk ⟨mf, mt, one, flt⟩ → ∀ (t : Nat) (m : Mv), t < j + 1 → ms[t]? = some m → mvOk l bound rk m) := fun hn t y ht hy => by
            by_cases e : t = j
            · subst e; rw [hm] at hy; cases hy; exact hn
            · exact HI.out t y (by omega) hy
          have x2 := XI.out.c 2 _ rfl
          have zx := XI.out.z
          have M0 : Hid (HasAt wi.heap.size [.int .i64 mf, .int .i64 mt, .int .i64 0, .bool one, .bool flt] (wi.alloc (.cells #[.int .i64 mf, .int .i64 mt, .int .i64 0, .bool one, .bool flt] 108))) := HasAt.new wi _ _ rfl
          have XX := Lib.hid (XI.out.alloc (.cells #[.int .i64 mf, .int .i64 mt, .int .i64 0, .bool one, .bool flt] 108))
          have RX := Lib.hid (RI.out.alloc (.cells #[.int .i64 mf, .int .i64 mt, .int .i64 0, .bool one, .bool flt] 108))
          clear hm
          by_cases hr : 0 ≤ rk
          · have hr' : decide (0 ≤ rk) = true := by simpa using hr
            have hr2 : decide (rk < 0) = false := by simpa using hr
            have HR := Lib.hid hr
            have BQ : Hid (true = (decide (0 ≤ rk) || (Mv.mk mf mt one flt).flt)) := by simp [Hid, hr]
            clear hr
            go_wp2_with fail
            clear k0 k1 k2 k3 k4 x2
            generalize hWI : wi.alloc (.cells #[.int .i64 mf, .int .i64 mt, .int .i64 0, .bool one, .bool flt] 108) = WI at *
            clear hWI
            have RXw := Lib.hid (W1.out.trans ((R3.out.trans (RX.out.mono R3.out.z)).mono W1.out.z))
            refine (lookup_c _ cL l mf mt 0 true WI (HL.out.below PaE.stays RXw.out.b) ll).mono ?_
            rintro e w5 ⟨rfl, hb⟩
            have R5 := Lib.hid (RX.out.next hb)
            have R5w := Lib.hid (RXw.out.next hb)
            have X5 := Lib.hid (XX.out.below hb)
            have M5 := Lib.hid (M0.out.below hb)
            clear hb
            have x2 := X5.out.c 2 _ rfl
            have m3 := M5.out.c 3 _ rfl
            have m4 := M5.out.c 4 _ rfl
            have zx5 := X5.out.z
            have zm5 := M5.out.z
            simp only
            rcases lookV_cases l mf mt true with ⟨hq, _⟩ | ⟨k', ⟨f', s', r'⟩, hq, hp, _, _⟩
            · have NN := Lib.hid (MN.out _ HM.out (fun h => h.hits BQ.out hq))
              rw [hq]
              clear hq
              go_wp2
              go_ret
              exact Tells.no NN.out R5w.out.b
            obtain ⟨b6, o6, hA6, hb6, p0, p1, p2⟩ := PasAt.get (HL.out.below PaE.stays R5w.out.b) hp
            cases hA6
            dsimp only at p0 p1 p2
            have hkl : k' < l.length := (List.getElem?_eq_some_iff.1 hp).1
            have hkk : decide ((k' : Int) < 0) = false := by simp
            have US : Hid (mvOk l bound rk ⟨mf, mt, one, flt⟩ → (rk < 0 → flt = true → r' < bound) ∧ (0 ≤ rk → one = true → r' < rk) ∧ (0 ≤ rk → r' ≤ rk)) := fun h => h.use BQ.out hq hp
            have OF : Hid ((rk < 0 → flt = true → r' < bound) → (0 ≤ rk → one = true → r' < rk) → (0 ≤ rk → r' ≤ rk) → mvOk l bound rk ⟨mf, mt, one, flt⟩) := fun h1 h2 h3 => mvOk.of_hit BQ.out hq hp h1 h2 h3
            rw [hq]
            clear hq hp p0 p1
            cases one
            · by_cases hc : rk < r'
              · have hc' : decide (rk < r') = true := by simpa using hc
                have NN := Lib.hid (MN.out _ HM.out (fun h => by have := (US.out h).2.2 HR.out; omega))
                clear hc
                go_wp2
                go_ret
                exact Tells.no NN.out R5w.out.b
              · have hc' : decide (rk < r') = false := by simpa using hc
                have GO := Lib.hid (HIN2.out (OF.out (fun h => by have := HR.out; omega) (fun _ h => by cases h) (fun _ => by omega)))
                clear hc
                go_wp2
                go_roundw
                case rel => exact ⟨j + 1, by omega, by go_num, R5.out, GO.out⟩
                case measure => simp [intOf]; omega
            · by_cases hc : rk ≤ r'
              · have hc' : decide (rk ≤ r') = true := by simpa using hc
                have NN := Lib.hid (MN.out _ HM.out (fun h => by have := (US.out h).2.1 HR.out rfl; omega))
                clear hc
                go_wp2
                go_ret
                exact Tells.no NN.out R5w.out.b
              · have hc' : decide (rk ≤ r') = false := by simpa using hc
                have hc2 : decide (rk < r') = false := by simp; omega
                have GO := Lib.hid (HIN2.out (OF.out (fun h => by have := HR.out; omega) (fun _ _ => by omega) (fun _ => by omega)))
                clear hc
                go_wp2
                go_roundw
                case rel => exact ⟨j + 1, by omega, by go_num, R5.out, GO.out⟩
                case measure => simp [intOf]; omega
          · have hr' : decide (0 ≤ rk) = false := by simpa using hr
            have hr2 : decide (rk < 0) = true := by simpa using hr
            have HR := Lib.hid (show ¬ 0 ≤ rk from by omega)
            have BQ : Hid (flt = (decide (0 ≤ rk) || (Mv.mk mf mt one flt).flt)) := by simp [Hid, hr]
            clear hr
            go_wp2_with fail
            clear k0 k1 k2 k3 k4 x2
            generalize hWI : wi.alloc (.cells #[.int .i64 mf, .int .i64 mt, .int .i64 0, .bool one, .bool flt] 108) = WI at *
            clear hWI
            have RXw := Lib.hid (W1.out.trans ((R3.out.trans (RX.out.mono R3.out.z)).mono W1.out.z))
            refine (lookup_c _ cL l mf mt 0 flt WI (HL.out.below PaE.stays RXw.out.b) ll).mono ?_
            rintro e w5 ⟨rfl, hb⟩
            have R5 := Lib.hid (RX.out.next hb)
            have R5w := Lib.hid (RXw.out.next hb)
            have X5 := Lib.hid (XX.out.below hb)
            have M5 := Lib.hid (M0.out.below hb)
            clear hb
            have x2 := X5.out.c 2 _ rfl
            have m3 := M5.out.c 3 _ rfl
            have m4 := M5.out.c 4 _ rfl
            have zx5 := X5.out.z
            have zm5 := M5.out.z
            simp only
            rcases lookV_cases l mf mt flt with ⟨hq, _⟩ | ⟨k', ⟨f', s', r'⟩, hq, hp, _, _⟩
            · have NN := Lib.hid (MN.out _ HM.out (fun h => h.hits BQ.out hq))
              rw [hq]
              clear hq
              go_wp2
              go_ret
              exact Tells.no NN.out R5w.out.b
            obtain ⟨b6, o6, hA6, hb6, p0, p1, p2⟩ := PasAt.get (HL.out.below PaE.stays R5w.out.b) hp
            cases hA6
            dsimp only at p0 p1 p2
            have hkl : k' < l.length := (List.getElem?_eq_some_iff.1 hp).1
            have hkk : decide ((k' : Int) < 0) = false := by simp
            have US : Hid (mvOk l bound rk ⟨mf, mt, one, flt⟩ → (rk < 0 → flt = true → r' < bound) ∧ (0 ≤ rk → one = true → r' < rk) ∧ (0 ≤ rk → r' ≤ rk)) := fun h => h.use BQ.out hq hp
            have OF : Hid ((rk < 0 → flt = true → r' < bound) → (0 ≤ rk → one = true → r' < rk) → (0 ≤ rk → r' ≤ rk) → mvOk l bound rk ⟨mf, mt, one, flt⟩) := fun h1 h2 h3 => mvOk.of_hit BQ.out hq hp h1 h2 h3
            rw [hq]
            clear hq hp p0 p1
            cases flt
            · have GO := Lib.hid (HIN2.out (OF.out (fun _ h => by cases h) (fun h => by have := HR.out; omega) (fun h => by have := HR.out; omega)))
              go_wp2
              go_roundw
              case rel => exact ⟨j + 1, by omega, by go_num, R5.out, GO.out⟩
              case measure => simp [intOf]; omega
            · by_cases hc : bound ≤ r'
              · have hc' : decide (bound ≤ r') = true := by simpa using hc
                have NN := Lib.hid (MN.out _ HM.out (fun h => by have := (US.out h).1 (by have := HR.out; omega) rfl; omega))
                clear hc
                go_wp2
                go_ret
                exact Tells.no NN.out R5w.out.b
              · have hc' : decide (bound ≤ r') = false := by simpa using hc
                have GO := Lib.hid (HIN2.out (OF.out (fun _ _ => by omega) (fun h => by have := HR.out; omega) (fun h => by have := HR.out; omega)))
                clear hc
                go_wp2
                go_roundw
                case rel => exact ⟨j + 1, by omega, by go_num, R5.out, GO.out⟩
                case measure => simp [intOf]; omega
        · obtain rfl : j = ms.length := by omega
          have GO := Lib.hid (HN.out (MV.out (fun m hm => by
            obtain ⟨t, ht, hm⟩ := List.mem_iff_getElem.1 hm
            exact HI.out t m ht (by rw [List.getElem?_eq_getElem ht, hm]))))
          go_wp2
          go_roundw
          case rel => exact ⟨k + 1, by omega, by go_num, R3.out.trans (RI.out.mono R3.out.z), GO.out⟩
          case measure => simp [intOf]; omega
    · obtain rfl : k = l.length := by omega
      have YES := Lib.hid (IsB.mk HQ.out (fun i x hx => H.out i x (List.getElem?_eq_some_iff.1 hx).1 hx))
      go_wp2
      go_ret
      exact Tells.yes YES.out RW.out.b
end Go.Proofs.Ytkbmenpggiojeaa
