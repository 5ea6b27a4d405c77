/-
  The checker's look at a bound.
-/
import Derived.Test.YtkbmenpggiojeaaLc
namespace Go.Proofs.Ytkbmenpggiojeaa
open Go.RowKit
set_option linter.unusedSimpArgs false
set_option linter.unusedVariables false

def pkey (p : Pa) : Int × Int × Int := (p.fst, p.snd, if p.rk = -1 then 0 else 1)
def ranksOf (l : List Pa) (y : Int × Int × Int) : Option Int := (l.find? fun p => decide (pkey p = y)).map (·.rk)
theorem ranksOf_snoc {l : List Pa} {p : Pa} (h : (ranksOf l (pkey p)).isSome = false) (y : Int × Int × Int) : ranksOf (l ++ [p]) y = if y = pkey p then some p.rk else ranksOf l y := by
  by_cases hy : y = pkey p
  · subst hy
    have : l.find? (fun q => decide (pkey q = pkey p)) = none := by
      simp only [ranksOf, Option.isSome_map, Option.isSome_eq_false_iff, Option.isNone_iff_eq_none] at h
      exact h
    simp [ranksOf, List.find?_append, this]
  · have hy' : ¬ pkey p = y := fun h => hy h.symm
    simp [ranksOf, List.find?_append, hy', hy]
theorem ranksOf_some {l : List Pa} {y : Int × Int × Int} : (ranksOf l y).isSome = true ↔ ∃ p, p ∈ l ∧ pkey p = y := by
  simp [ranksOf, List.find?_isSome]

structure PaIn (n : Int) (p : Pa) : Prop where
  f0 : 0 ≤ p.fst
  f1 : p.fst < n
  s0 : 0 ≤ p.snd
  s1 : p.snd < n
  r0 : -1 ≤ p.rk
structure BoundOk (evs : List Ev) (au : Au) (class_ bound : Int) (l : List Pa) : Prop where
  pl : PlantOk evs.length au class_
  n0 : au.n ≠ 0
  b0 : 0 ≤ bound
  in_ : ∀ k p, l[k]? = some p → PaIn au.n p ∧ (ranksOf (l.take k) (pkey p)).isSome = false
  st : (ranksOf l (0, 0, 0)).isSome = true
  pr : ∀ p, p ∈ l → PairOk (ranksOf l) bound class_ evs au.ed p

theorem key_t (f s : Int) (b : Bool) (t : Int) (ht : t = if b then 1 else 0) (w : World) :
    Calls Try.prog 38 #[.int .i64 f, .int .i64 s, .bool b] w fun e w' => e = .returned (.agg #[.int .i64 f, .int .i64 s, .int .i64 t]) ∧ Below w.heap.size w w' :=
  (key_c f s b w).mono fun e w' ⟨h1, h2⟩ => ⟨by rw [h1, ht], h2⟩

set_option maxRecDepth 100000 in
set_option maxHeartbeats 4000000 in
theorem Bound_c (AE : Option Addr) (cE : Nat) (evs : List Ev) (au : Au) (p : AuP) (class_ bound : Int) (AL : Option Addr) (cL : Nat) (l : List Pa) (w : World)
    (hE : EvsAt w AE evs) (hp : Au.At w au p) (hL : PasAt w AL l) (lev : evs.length ≤ 140737488355328) (lL : l.length ≤ 140737488355328) (led : au.ed.length ≤ 1000000) :
    Calls Try.prog 11 #[.slice AE evs.length cE, au.val p, .int .i64 class_, .int .i64 bound, .slice AL l.length cL] w (Tells (BoundOk evs au class_ bound l) w) := by
  have B0 := Lib.hid (Below.new w (.cells #[.slice p.A1 au.al.length p.c1, .int .i64 au.n, .slice p.A2 au.mr.length p.c2, .slice p.A3 au.ed.length p.c3] 39))
  have HA := Lib.hid (plant_c evs.length AE cE au p class_ _ (hp.below B0.out) lev)
  have HE := Lib.hid hE
  have HP := Lib.hid hp
  have HL := Lib.hid hL
  clear hE hp hL
  obtain ⟨al, m, mr, ed⟩ := au
  obtain ⟨A1, c1, A2, c2, A3, c3⟩ := p
  dsimp only [Au.val] at *
  have hmm := @run_makeMap Try.prog
  go_enter Try.func11, Try.ntmps11
  go_wp2_with fail
  refine HA.out.mono ?_
  intro e w1 hs
  rcases hs.no1 with ⟨rfl, S, hb⟩ | ⟨rfl, S, hb⟩
  · go_wp2
    go_ret
    exact Tells.no (fun h => S.out h.pl) (B0.out.trans (hb.mono B0.out.size))
  clear HA hs
  have q0 : w1.cell? ⟨w.heap.size, 0, none⟩ = some (.slice A1 al.length c1) := old_cell hb (new_cell w _ [_, _, _, _] _ 0 rfl) (by simp)
  have q1 : w1.cell? ⟨w.heap.size, 1, none⟩ = some (.int .i64 m) := old_cell hb (new_cell w _ [_, _, _, _] _ 1 rfl) (by simp)
  have q2 : w1.cell? ⟨w.heap.size, 2, none⟩ = some (.slice A2 mr.length c2) := old_cell hb (new_cell w _ [_, _, _, _] _ 2 rfl) (by simp)
  have q3 : w1.cell? ⟨w.heap.size, 3, none⟩ = some (.slice A3 ed.length c3) := old_cell hb (new_cell w _ [_, _, _, _] _ 3 rfl) (by simp)
  have BW1 : Hid (Below w.heap.size w w1) := B0.out.trans (hb.mono B0.out.size)
  have z1 : w.heap.size < w1.heap.size := Nat.lt_of_lt_of_le (by simp) hb.size
  clear hb B0
  obtain ⟨n, rfl⟩ := Int.eq_ofNat_of_zero_le S.out.ha.n0
  have hn : n ≤ 4096 := by have := S.out.ha.n1; simp only at this; omega
  by_cases hn0 : n = 0
  · subst hn0
    go_wp2
    go_ret
    exact Tells.no (fun h => h.n0 rfl) BW1.out
  have hn0' : ((n : Int) == 0) = false := by simp; omega
  by_cases hb0 : bound < 0
  · go_wp2
    go_ret
    exact Tells.no (fun h => by have := h.b0; omega) BW1.out
  have HN0 := Lib.hid hn0
  have HB0 := Lib.hid hb0
  clear hn0
  go_wp2_with fail
  refine (outgoing_c n al mr ed ⟨A1, c1, A2, c2, A3, c3⟩ _ hn (HP.out.ed.below EdE.stays BW1.out) led (fun x hx => ?_)).mono ?_
  · obtain ⟨j, hj, rfl⟩ := List.mem_iff_getElem.1 hx
    have := S.out.ha.ed j hj _ (List.getElem?_eq_getElem hj)
    exact ⟨this.1, this.2.1⟩
  rintro e w3 ⟨bo, rfl, hbo, hrows, hb3⟩
  have BW3 : Hid (Below w.heap.size w w3) := BW1.out.trans (hb3.mono BW1.out.size)
  have ROWS := Lib.hid hrows
  have q1' := old_cell hb3 q1 z1
  have z3 : w.heap.size < w3.heap.size := Nat.lt_of_lt_of_le z1 hb3.size
  clear hrows hb3 q0 q1 q2 q3
  go_wp2
  go_loopw [45] (fun i wr => ∃ k : Nat, k ≤ l.length ∧ i = .int .i64 k ∧ Hid (Below w3.heap.size w3 wr) ∧ Hid (MapAt key3 wr w3.heap.size (ranksOf (l.take k))) ∧ Hid (BlkAt wr (w3.heap.size + 1) 99 [.slice AE evs.length cE, .int .i64 class_, .int .i64 bound, .slice (some ⟨bo, 0, none⟩) n n, .map (some w3.heap.size)]) ∧ Hid (∀ (j : Nat) (p : Pa), j < k → l[j]? = some p → PaIn n p ∧ (ranksOf (l.take j) (pkey p)).isSome = false)) (fun i _ => l.length - (intOf i).toNat)
  case atStart =>
    refine ⟨0, by omega, rfl, (Below.new _ _).alloc (by simp) _, Lib.hid (((MapAt.made key3 w3).alloc _).congr (fun x => rfl)), Lib.hid ?_, fun j p h => absurd h (by omega)⟩
    have := BlkAt.new (w3.alloc (.map #[] 0)) 99 [.slice AE evs.length cE, .int .i64 class_, .int .i64 bound, .slice (some ⟨bo, 0, none⟩) n n, .map (some w3.heap.size)]
    rw [World.size_alloc] at this
    exact this
  case round =>
    obtain ⟨k, hk, rfl, B3, HM, HT, HIN⟩ := hrel
    have BWR := Lib.hid (BW3.out.trans (B3.out.mono (by omega)))
    have zbm := HM.out.lt
    have zbt := HT.out.lt
    have zh : w.heap.size < wr.heap.size := by omega
    by_cases hlt : k < l.length
    · obtain ⟨x, hx⟩ : ∃ x, l[k]? = some x := ⟨_, List.getElem?_eq_getElem hlt⟩
      obtain ⟨b, off, hAL, hb, e0, e1, e2⟩ := PasAt.get (HL.out.below PaE.stays BWR.out) hx
      subst hAL
      obtain ⟨fst, snd, rk⟩ := x
      dsimp only at e0 e1 e2
      have HX := Lib.hid hx
      clear hx
      have r1 := old_cell B3.out q1' z3
      by_cases hin : PaIn n ⟨fst, snd, rk⟩
      rotate_left
      · have NIN := Lib.hid (show ¬ (0 ≤ fst ∧ fst < n ∧ 0 ≤ snd ∧ snd < n ∧ -1 ≤ rk) from fun ⟨a, b, c, d, e⟩ => hin ⟨a, b, c, d, e⟩)
        have NO := Lib.hid (show ¬ BoundOk evs ⟨al, n, mr, ed⟩ class_ bound l from fun h => hin (h.in_ k _ HX.out).1)
        clear hin
        go_wp2
        any_goals (go_ret; exact Tells.no NO.out (BWR.out.alloc (by omega) _))
        all_goals (exfalso; refine NIN.out ⟨?_, ?_, ?_, ?_, ?_⟩ <;> omega)
      obtain ⟨g0, g1, g2, g3, g4⟩ := hin
      simp only at g0 g1 g2 g3 g4
      have GIN := Lib.hid (PaIn.mk (n := n) (p := ⟨fst, snd, rk⟩) g0 g1 g2 g3 g4)
      obtain ⟨t, ht⟩ : ∃ t : Int, t = if rk = -1 then 0 else 1 := ⟨_, rfl⟩
      have HTT := Lib.hid ht
      have ht2 : t = if (rk != -1) = true then 1 else 0 := by rw [ht]; by_cases h : rk = -1 <;> simp [h]
      have HT2 := Lib.hid ht2
      clear ht ht2
      have BX := Lib.hid (Below.new wr (.cells #[.int .i64 fst, .int .i64 snd, .int .i64 rk] 46))
      go_wp2_with fail
      have MX := Lib.hid (HM.out.alloc (.cells #[.int .i64 fst, .int .i64 snd, .int .i64 rk] 46))
      have TX := Lib.hid (HT.out.alloc (.cells #[.int .i64 fst, .int .i64 snd, .int .i64 rk] 46))
      have x2 := new_cell wr 46 [.int .i64 fst, .int .i64 snd, .int .i64 rk] _ 2 rfl
      have zx : wr.heap.size < (wr.alloc (.cells #[.int .i64 fst, .int .i64 snd, .int .i64 rk] 46)).heap.size := by simp
      have B3X := Lib.hid (B3.out.trans (BX.out.mono B3.out.size))
      clear e0 e1 e2 r1
      generalize hWX : wr.alloc (.cells #[.int .i64 fst, .int .i64 snd, .int .i64 rk] 46) = WX at *
      clear hWX
      refine (key_t fst snd (rk != -1) t HT2.out _).mono ?_
      rintro e w4 ⟨rfl, hb4⟩
      have zx4 := Nat.lt_of_lt_of_le zx hb4.size
      have x24 := old_cell hb4 x2 zx
      have M4 := Lib.hid (MX.out.below hb4 MX.out.lt)
      have T4 := Lib.hid (TX.out.below hb4 TX.out.lt)
      have B34 := Lib.hid (B3X.out.trans (hb4.mono B3X.out.size))
      clear hb4 x2 MX TX
      go_wp2_with fail
      have BK := Lib.hid (Below.new w4 (.cells #[.int .i64 fst, .int .i64 snd, .int .i64 t] 100))
      have M5 := Lib.hid (M4.out.alloc (.cells #[.int .i64 fst, .int .i64 snd, .int .i64 t] 100))
      have T5 := Lib.hid (T4.out.alloc (.cells #[.int .i64 fst, .int .i64 snd, .int .i64 t] 100))
      have B35 := Lib.hid (B34.out.trans (BK.out.mono B34.out.size))
      have k0 := new_cell w4 100 [.int .i64 fst, .int .i64 snd, .int .i64 t] _ 0 rfl
      have k1 := new_cell w4 100 [.int .i64 fst, .int .i64 snd, .int .i64 t] _ 1 rfl
      have k2 := new_cell w4 100 [.int .i64 fst, .int .i64 snd, .int .i64 t] _ 2 rfl
      have x25 := old_cell BK.out x24 zx4
      have zx5 : wr.heap.size < (w4.alloc (.cells #[.int .i64 fst, .int .i64 snd, .int .i64 t] 100)).heap.size := by simp; omega
      clear M4 T4 x24
      generalize hW5 : w4.alloc (.cells #[.int .i64 fst, .int .i64 snd, .int .i64 t] 100) = W5 at *
      clear hW5
      have t4 := T5.out.cell 4
      have hl : ∀ q, (Instr.lookup 97 (.map (some w3.heap.size)) (.agg #[.int .i64 fst, .int .i64 snd, .int .i64 t]) true).run Try.prog (W5.drewN q) = .ok (.tuple #[.int .i64 ((ranksOf (l.take k) (fst, snd, t)).getD 0), .bool (ranksOf (l.take k) (fst, snd, t)).isSome]) (W5.drewN q) := fun q =>
        MapAt.look ok3 Try.underlying97 zeroInt (M5.out.below ((Below.refl _ W5).draws q) M5.out.lt) (fst, snd, t)
      go_quiet (fail)
      have PK := Lib.hid (show pkey ⟨fst, snd, rk⟩ = (fst, snd, t) from by simp only [pkey]; rw [HTT.out])
      have BQ := Lib.hid ((Below.refl W5.heap.size W5).draws nq)
      have BWQ := Lib.hid (BW3.out.trans ((B35.out.trans (BQ.out.mono B35.out.size)).mono (by omega)))
      cases hv : (ranksOf (l.take k) (fst, snd, t)).isSome with
      | true =>
        have NO := Lib.hid (show ¬ BoundOk evs ⟨al, n, mr, ed⟩ class_ bound l from fun h => by have := (h.in_ k _ HX.out).2; rw [PK.out, hv] at this; cases this)
        clear hv hl
        go_wp2
        go_ret
        exact Tells.no NO.out BWQ.out
      | false =>
        have NS := Lib.hid (show (ranksOf (l.take k) (pkey ⟨fst, snd, rk⟩)).isSome = false from by rw [PK.out]; exact hv)
        clear hv hl
        go_wp2_with fail
        have M7 := Lib.hid (M5.out.below BQ.out M5.out.lt)
        have T7 := Lib.hid (T5.out.draws nq)
        have B37 := Lib.hid (B35.out.trans (BQ.out.mono B35.out.size))
        have j0 : (W5.drewN nq).cell? ⟨w4.heap.size, 0, none⟩ = _ := k0
        have j1 : (W5.drewN nq).cell? ⟨w4.heap.size, 1, none⟩ = _ := k1
        have j2 : (W5.drewN nq).cell? ⟨w4.heap.size, 2, none⟩ = _ := k2
        have y2 : (W5.drewN nq).cell? ⟨wr.heap.size, 2, none⟩ = _ := x25
        clear k0 k1 k2 x25 t4 T5 M5 B35
        generalize hW7 : W5.drewN nq = W7 at *
        clear hW7
        have t4 := T7.out.cell 4
        go_still_tail 7, (by kernel_rfl)
        change wpList _ _ _ _ _ (World.drew _)
        have MQ := Lib.hid (M7.out.below (Below.refl W7.heap.size W7).drew M7.out.lt)
        have TQ : Hid (BlkAt W7.drew (w3.heap.size + 1) 99 _) := T7.out
        have B38 := Lib.hid B37.out.drew
        go_wp2_with (at_mapUpdate; refine wpList_mapUpdate_at _ rfl _ _ _ 97 100 3 rfl _ key3 ok3 Try.underlying97 w3.heap.size (ranksOf (l.take k)) (fst, snd, t) rk rfl MQ.out rfl rfl ?_; intro w6 hm6 hg6; have HM6 := Lib.hid hm6; clear hm6; have HG6 := Lib.hid hg6; clear hg6)
        go_roundw
        case rel =>
          exact ⟨k + 1, by omega, by go_num, B38.out.grown HG6.out B38.out.size (fun j hj => by cases hj; omega), HM6.out.congr (fun y => by
              rw [List.take_add_one, HX.out]
              show ranksOf (l.take k ++ [⟨fst, snd, rk⟩]) y = _
              rw [ranksOf_snoc NS.out, PK.out]), TQ.out.grown HG6.out (by simp), fun j p hj hjp => by
              by_cases e : j = k
              · subst e; rw [HX.out] at hjp; cases hjp; exact ⟨GIN.out, NS.out⟩
              · exact HIN.out j p (by omega) hjp⟩
        case measure => simp [intOf]; omega
    obtain rfl : k = l.length := by omega
    have TW := Lib.hid (TwAt.mk (w := wr) (bt := w3.heap.size + 1) (bm := w3.heap.size) (AE := AE) (cE := cE) (evs := evs) (class_ := class_) (bound := bound) (AO := some ⟨bo, 0, none⟩) (cO := n) (n := n) (ed := ed) (f := ranksOf l) (HT.out.cell 0) (HT.out.cell 1) (HT.out.cell 2) (HT.out.cell 3) (HT.out.cell 4)
      (HE.out.below EvE.stays BWR.out) (ROWS.out.below (RowE.stays EdE.stays) B3.out) (by have := HM.out; rwa [List.take_length] at this) HT.out.lt)
    clear HM HT
    obtain ⟨V, rfl⟩ : ∃ V : World, V = wr := ⟨_, rfl⟩
    have d4 := TW.out.c4
    have zt := TW.out.z
    have KW := Lib.hid (fun (w2 : World) (hb : Below V.heap.size V w2) => (show (Instr.lookup 97 (.map (some w3.heap.size)) (.agg #[.int .i64 0, .int .i64 0, .int .i64 0]) true).run Try.prog w2 = .ok (.tuple #[.int .i64 ((ranksOf l (0, 0, 0)).getD 0), .bool (ranksOf l (0, 0, 0)).isSome]) w2 from MapAt.look ok3 Try.underlying97 zeroInt (TW.out.mp.below hb TW.out.mp.lt) (0, 0, 0)))
    go_wp2_with fail
    go_upto_region 15 with fail
    go_cut [17, 18] (fun a b wx => a = .int .i64 ((ranksOf l (0, 0, 0)).getD 0) ∧ b = .bool (ranksOf l (0, 0, 0)).isSome ∧ Hid (Below V.heap.size V wx))
    case first =>
      go_region_held3 (fun W' => W'.cell? ⟨w3.heap.size + 1, 4, none⟩ = some (.map (some w3.heap.size))) (first | exact s4 | go_keep) (
        first | (go_at_call 38
                 refine (key_c 0 0 false _).mono ?_
                 rintro e w2 ⟨rfl, hb2⟩
                 have s4 : w2.cell? ⟨w3.heap.size + 1, 4, none⟩ = some (.map (some w3.heap.size)) := old_cell hb2 d4 zt
                 have hl := KW.out w2 ((Below.refl _ V).drew.trans hb2)
                 have HB2 := Lib.hid ((Below.refl _ V).drew.trans hb2)
                 clear hb2))
      all_goals go_wp2_with fail
      all_goals go_meet
      all_goals exact ⟨rfl, rfl, HB2⟩
    case rest =>
      obtain ⟨rfl, rfl, BC⟩ := hcut
      have TC := Lib.hid (TW.out.below BC.out)
      have BWC := Lib.hid (BWR.out.trans (BC.out.mono BWR.out.size))
      clear d4 KW zt
      cases hv : (ranksOf l (0, 0, 0)).isSome with
      | false =>
        have NO := Lib.hid (show ¬ BoundOk evs ⟨al, n, mr, ed⟩ class_ bound l from fun h => by have := h.st; rw [hv] at this; cases this)
        clear hv
        go_wp2
        go_ret
        exact Tells.no NO.out BWC.out
      | true =>
        have ST := Lib.hid hv
        clear hv
        go_wp2
        go_loopw [115] (fun a wr => ∃ q : Nat, q ≤ l.length ∧ a = .int .i64 q ∧ Hid (Below wc.heap.size wc wr) ∧ Hid (∀ (j : Nat) (p : Pa), j < q → l[j]? = some p → PairOk (ranksOf l) bound class_ evs ed p)) (fun a _ => l.length - (intOf a).toNat)
        case atStart => exact ⟨0, by omega, rfl, Below.refl _ _, fun j p h => absurd h (by omega)⟩
        case round =>
          obtain ⟨q, hq, rfl, BL, HPR⟩ := hrel
          have BWL := Lib.hid (BWC.out.trans (BL.out.mono BWC.out.size))
          by_cases hlt2 : q < l.length
          · obtain ⟨x, hx⟩ : ∃ x, l[q]? = some x := ⟨_, List.getElem?_eq_getElem hlt2⟩
            obtain ⟨b, off, hAL, hb, e0, e1, e2⟩ := PasAt.get (HL.out.below PaE.stays BWL.out) hx
            subst hAL
            have hin := (HIN.out q x hlt2 hx).1
            obtain ⟨fst, snd, rk⟩ := x
            obtain ⟨g0, g1, g2, g3, g4⟩ := hin
            simp only at g0 g1 g2 g3 g4
            obtain ⟨fi, rfl⟩ := Int.eq_ofNat_of_zero_le g0
            obtain ⟨si, rfl⟩ := Int.eq_ofNat_of_zero_le g2
            have hfi : fi < n := by omega
            have hsi : si < n := by omega
            clear g0 g1 g2 g3 g4
            dsimp only at e0 e1 e2
            have HX := Lib.hid hx
            clear hx
            have BX := Lib.hid (Below.new wr (.cells #[.int .i64 (fi : Int), .int .i64 (si : Int), .int .i64 rk] 46))
            have TX := Lib.hid (TC.out.below (BL.out.trans (BX.out.mono BL.out.size)))
            go_wp2_with fail
            refine (pair_c (w3.heap.size + 1) w3.heap.size AE cE evs class_ bound bo n n ed (ranksOf l) fi si rk _ TX.out hfi hsi hn lev (fun x hx => ?_)).mono ?_
            · obtain ⟨j, hj, rfl⟩ := List.mem_iff_getElem.1 hx
              have h1 := (S.out.ha.ed j hj _ (List.getElem?_eq_getElem hj)).2.2.2.2.1
              have h2 := S.out.hev _ h1
              obtain ⟨t, ht, he⟩ := List.mem_iff_getElem.1 h1
              have h3 := S.out.ha.al t _ ht (List.getElem?_eq_getElem ht)
              rw [he] at h3
              exact ⟨h3.1, h2⟩
            intro e w8 hs
            rcases hs.no1 with ⟨rfl, SP, hb8⟩ | ⟨rfl, SP, hb8⟩
            · have NO := Lib.hid (show ¬ BoundOk evs ⟨al, n, mr, ed⟩ class_ bound l from fun h => SP.out (h.pr _ (List.mem_of_getElem? HX.out)))
              have B8 := Lib.hid (BWL.out.trans ((BX.out.trans (hb8.mono BX.out.size)).mono BWL.out.size))
              clear hb8
              go_wp2
              go_ret
              exact Tells.no NO.out B8.out
            · have B8 := Lib.hid (BL.out.trans ((BX.out.trans (hb8.mono BX.out.size)).mono BL.out.size))
              clear hb8
              go_wp2
              go_roundw
              case rel => exact ⟨q + 1, by omega, by go_num, B8, all_step HPR.out HX.out SP.out⟩
              case measure => simp [intOf]; omega
          · go_wp2
            go_ret
            exact Tells.yes ⟨S.out, fun h => HN0.out (by simpa using h), by have := HB0.out; omega, fun k p hkp => HIN.out k p (List.getElem?_eq_some_iff.1 hkp).1 hkp, ST.out, all_get (fun j p hj hp => HPR.out j p (by omega) hp)⟩ BWL.out
end Go.Proofs.Ytkbmenpggiojeaa
