/-
  The checker's look at a certificate of kept states.
-/
import Derived.Test.YtkbmenpggiojeaaKl
import Derived.Test.YtkbmenpggiojeaaKr
import Derived.Test.YtkbmenpggiojeaaKs
import Derived.StillTailTactics
namespace Go.Proofs.Ytkbmenpggiojeaa
open Go.RowKit
set_option linter.unusedSimpArgs false
set_option linter.unusedVariables false

def keepsS (forb unc mr kept dist : List Int) (es : List Ed) (i d : Int) : Prop :=
  i ∉ forb ∧ (¬ ∃ x, x ∈ es ∧ x.dst ∉ kept ∧ x.ev ∈ unc) ∧ (d = 0 → i ∈ mr) ∧ (d ≠ 0 → 0 < d ∧ ∃ x, x ∈ es ∧ ∃ (k : Nat) (d1 : Int), kept[k]? = some x.dst ∧ dist[k]? = some d1 ∧ d1 < d)
theorem keeps_iff {forb unc mr kept dist : List Int} {es : List Ed} {i d : Int} {s : Sp} {n : Nat} (ho : s.Of n kept) (hx : ∀ (i : Nat) r, r ∈ s.rm → r.st = (i : Int) → s.kp[i]? = some false) (hk : ∀ i : Nat, i < n → (s.kp[i]? = some true ↔ (i : Int) ∈ kept))
    (hes : ∀ x, x ∈ es → 0 ≤ x.dst ∧ x.dst < n) : keepsP forb unc mr s.kp s.pl dist es i d ↔ keepsS forb unc mr kept dist es i d := by
  have h1 : ∀ x, x ∈ es → (keeps1P s.kp unc x ↔ x.dst ∉ kept ∧ x.ev ∈ unc) := fun x hm => by
    obtain ⟨g0, g1⟩ := hes x hm
    obtain ⟨src, ev, dst⟩ := x
    simp only at g0 g1
    obtain ⟨t, rfl⟩ := Int.eq_ofNat_of_zero_le g0
    have ht : t < n := by omega
    have := hk t ht
    simp only [keeps1P, Int.toNat_natCast]
    rw [← this]
    rcases ho.all t ht with ⟨a, _⟩ | ⟨a, _⟩ <;> simp [a]
  have h2 : ∀ x, x ∈ es → (keeps2P s.kp s.pl dist d x ↔ ∃ (k : Nat) (d1 : Int), kept[k]? = some x.dst ∧ dist[k]? = some d1 ∧ d1 < d) := fun x hm => by
    obtain ⟨g0, g1⟩ := hes x hm
    obtain ⟨src, ev, dst⟩ := x
    simp only at g0 g1
    obtain ⟨t, rfl⟩ := Int.eq_ofNat_of_zero_le g0
    have ht : t < n := by omega
    simp only [keeps2P, Int.toNat_natCast]
    rcases ho.all t ht with ⟨a, k, b, c⟩ | ⟨a, _⟩
    · constructor
      · rintro ⟨_, k', d1, e1, e2, e3⟩
        have : k' = k := by rw [b] at e1; simp at e1; omega
        subst this
        exact ⟨k', d1, c, e2, e3⟩
      · rintro ⟨k', d1, e1, e2, e3⟩
        have : k' = k := by
          rcases Nat.lt_trichotomy k' k with h | h | h
          · have := ho.incr k' k _ _ h e1 c; omega
          · exact h
          · have := ho.incr k k' _ _ h c e1; omega
        subst this
        exact ⟨a, k', d1, b, e2, e3⟩
    · constructor
      · rintro ⟨h, _⟩; rw [a] at h; cases h
      · rintro ⟨k', d1, e1, _⟩
        have := (hk t ht).2 (List.mem_of_getElem? e1)
        rw [a] at this; cases this
  have h3 : (∃ x, x ∈ es ∧ keeps1P s.kp unc x) ↔ ∃ x, x ∈ es ∧ x.dst ∉ kept ∧ x.ev ∈ unc := ⟨fun ⟨x, a, b⟩ => ⟨x, a, (h1 x a).1 b⟩, fun ⟨x, a, b⟩ => ⟨x, a, (h1 x a).2 b⟩⟩
  have h4 : (∃ x, x ∈ es ∧ keeps2P s.kp s.pl dist d x) ↔ ∃ x, x ∈ es ∧ ∃ (k : Nat) (d1 : Int), kept[k]? = some x.dst ∧ dist[k]? = some d1 ∧ d1 < d := ⟨fun ⟨x, a, b⟩ => ⟨x, a, (h2 x a).1 b⟩, fun ⟨x, a, b⟩ => ⟨x, a, (h2 x a).2 b⟩⟩
  unfold keepsP keepsS
  rw [h3, h4]

structure KeptOk (au : Au) (forb unc kept dist : List Int) (rms : List Rm) : Prop where
  pr : PrRight au forb unc
  ld : dist.length = kept.length
  dv : DivOk au.n.toNat kept rms
  ks : ∀ (k : Nat) (i d : Int), kept[k]? = some i → dist[k]? = some d → keepsS forb unc au.mr kept dist (outOf au.ed i.toNat) i d
  rs : ∀ r, r ∈ rms → removesP forb unc au.mr rms (outOf au.ed r.st.toNat) r

/-- Where the lists of a certificate lie. -/
structure CeP where
  AK : Option Addr
  cK : Nat
  AD : Option Addr
  cD : Nat
  AR : Option Addr
  cR : Nat
abbrev ceCells (kept dist : List Int) (rms : List Rm) (p : CeP) : Array Value := #[.slice p.AK kept.length p.cK, .slice p.AD dist.length p.cD, .slice p.AR rms.length p.cR]
abbrev ceVal (kept dist : List Int) (rms : List Rm) (p : CeP) : Value := .agg (ceCells kept dist rms p)
structure CeAt (w : World) (kept dist : List Int) (rms : List Rm) (p : CeP) : Prop where
  hk : IntsAt w p.AK kept
  hd : IntsAt w p.AD dist
  hr : RmsAt w p.AR rms
  lk : kept.length ≤ 4096
  ld : dist.length ≤ 4096
  lr : rms.length ≤ 140737488355328
theorem CeAt.below {w w' : World} {kept dist : List Int} {rms : List Rm} {p : CeP} (h : CeAt w kept dist rms p) (hb : Below w.heap.size w w') : CeAt w' kept dist rms p :=
  ⟨h.hk.below IntE.stays hb, h.hd.below IntE.stays hb, h.hr.below RmE.stays hb, h.lk, h.ld, h.lr⟩

/-- The cells that the loops read. -/
structure KEnv (W : World) (H b5 : Nat) (P Q T : List Value) : Prop where
  p : ∀ (j : Nat) (v : Value), P[j]? = some v → W.cell? ⟨H, j, none⟩ = some v
  q : ∀ (j : Nat) (v : Value), Q[j]? = some v → W.cell? ⟨H + 1, j, none⟩ = some v
  t : ∀ (j : Nat) (v : Value), T[j]? = some v → W.cell? ⟨b5, j, none⟩ = some v
  z : H + 1 < W.heap.size
  z5 : b5 < W.heap.size
theorem KEnv.below {W W' : World} {H b5 : Nat} {P Q T : List Value} (h : KEnv W H b5 P Q T) (hb : Below W.heap.size W W') : KEnv W' H b5 P Q T :=
  ⟨fun j v hj => old_cell hb (h.p j v hj) (by have := h.z; omega), fun j v hj => old_cell hb (h.q j v hj) h.z, fun j v hj => old_cell hb (h.t j v hj) h.z5, Nat.lt_of_lt_of_le h.z hb.size, Nat.lt_of_lt_of_le h.z5 hb.size⟩
theorem outs_get {ed : List Ed} {n i : Nat} (h : i < n) : (outs ed n)[i]? = some (outOf ed i) := by simp [outs, h]
theorem RowsAt.row {ed : List Ed} {n i bo : Nat} {w : World} (h : RowsAt EdE 3 w (some ⟨bo, 0, none⟩) (outs ed n)) (hi : i < n) :
    ∃ A c, bo < w.heap.size ∧ w.cell? ⟨bo, i, none⟩ = some (.slice A (outOf ed i).length c) ∧ (outOf ed i).length ≤ 140737488355328 ∧ EdsAt w A (outOf ed i) := by
  obtain ⟨b, off, x, A', c', hA, hlt, hx, hc, hl, hs⟩ := RowsAt.at h (i := i) (by simp [outs, hi])
  cases hA
  rw [outs_get hi] at hx; cases hx
  rw [Nat.zero_add] at hc
  exact ⟨A', c', hlt, hc, hl, hs⟩

set_option maxRecDepth 100000 in
set_option maxHeartbeats 2000000 in
theorem Kept_c (au : Au) (forb unc : List Int) (p : PrP) (kept dist : List Int) (rms : List Rm) (cp : CeP) (w : World) (hp : PrAt w au forb unc p) (hc : CeAt w kept dist rms cp) (lE : au.ed.length ≤ 1000000) :
    Calls Try.prog 30 #[prVal au forb unc p, ceVal kept dist rms cp] w (Tells (KeptOk au forb unc kept dist rms) w) := by
  have HP := Lib.hid hp
  have HC := Lib.hid hc
  have H1 := Lib.hid (problem_c au forb unc p ((w.alloc (.cells (prCells au forb unc p) 78)).alloc (.cells (ceCells kept dist rms cp) 81)) (hp.below ((Below.new _ _).alloc (by simp) _)))
  obtain ⟨al, m, mr, ed⟩ := au
  obtain ⟨⟨A1, c1, A2, c2, A3, c3⟩, AF, cF, AU, cU⟩ := p
  obtain ⟨AK, cK, AD, cD, AR, cR⟩ := cp
  have lk : kept.length ≤ 4096 := hc.lk
  have ld : dist.length ≤ 4096 := hc.ld
  have lr : rms.length ≤ 140737488355328 := hc.lr
  clear hp hc
  dsimp only [prVal, prCells, ceVal, ceCells] at *
  go_enter Try.func30, Try.ntmps30
  go_wp2_with fail
  refine H1.out.mono ?_
  intro e w1 hs
  have BW0 : Hid (Below w.heap.size w ((w.alloc (.cells #[.slice A1 al.length c1, .int .i64 m, .slice A2 mr.length c2, .slice A3 ed.length c3, .slice AF forb.length cF, .slice AU unc.length cU] 78)).alloc (.cells #[.slice AK kept.length cK, .slice AD dist.length cD, .slice AR rms.length cR] 81))) := (Below.new _ _).alloc (by simp) _
  rcases hs.no1 with ⟨rfl, S, hb⟩ | ⟨rfl, S, hb⟩
  · go_wp2
    go_ret
    exact Tells.no (fun h => S.out h.pr) (BW0.out.trans (hb.mono BW0.out.size))
  clear H1 hs
  have hsz : w.heap.size + 2 ≤ w1.heap.size := by have := hb.size; simp only [World.size_alloc] at this; omega
  have p0 : ∀ j v, [Value.slice A1 al.length c1, .int .i64 m, .slice A2 mr.length c2, .slice A3 ed.length c3, .slice AF forb.length cF, .slice AU unc.length cU][j]? = some v → w1.cell? ⟨w.heap.size, j, none⟩ = some v := fun j v h =>
    old_cell hb ((alloc_cell _ _ _ _ (by simp)).trans ((new_cell w _ [_, _, _, _, _, _] _ j rfl).trans h)) (by simp; omega)
  have q0 : ∀ j v, [Value.slice AK kept.length cK, .slice AD dist.length cD, .slice AR rms.length cR][j]? = some v → w1.cell? ⟨w.heap.size + 1, j, none⟩ = some v := fun j v h =>
    old_cell hb ((new_cell (w.alloc _) _ [_, _, _] _ j (by simp)).trans h) (by simp)
  have BW1 : Hid (Below w.heap.size w w1) := BW0.out.trans (hb.mono BW0.out.size)
  have P0 := p0 0 _ rfl
  have P1 := p0 1 _ rfl
  have P2 := p0 2 _ rfl
  have P3 := p0 3 _ rfl
  have P4 := p0 4 _ rfl
  have P5 := p0 5 _ rfl
  have Q0 := q0 0 _ rfl
  have Q1 := q0 1 _ rfl
  have Q2 := q0 2 _ rfl
  clear p0 q0 hb BW0
  by_cases hl : dist.length = kept.length
  rotate_left
  · have hl' : ((dist.length : Int) == (kept.length : Int)) = false := by simp; omega
    go_wp2
    go_ret
    exact Tells.no (fun h => hl h.ld) BW1.out
  have hl' : ((dist.length : Int) == (kept.length : Int)) = true := by simp; omega
  have hl2 : ((dist.length : Int) != (kept.length : Int)) = false := by simp; omega
  have HL := Lib.hid hl
  clear hl
  obtain ⟨n, rfl⟩ := Int.eq_ofNat_of_zero_le S.out.ha.n0
  have hn : n ≤ 4096 := by have := S.out.ha.n1; simp only at this; omega
  go_wp2_with fail
  refine (divide_c n AK cK kept AR cR rms w1 hn (HC.out.hk.below IntE.stays BW1.out) (HC.out.hr.below RmE.stays BW1.out) lk lr).mono ?_
  rintro e w2 ⟨⟨kp, pl, rm⟩, ⟨Ak, ck, Ap, cp, Ar, cr⟩, r, rfl, hsr, hr, hs2, hb⟩
  simp only at hsr
  subst hsr
  have HR := Lib.hid hr
  have HS2 := Lib.hid hs2
  have B2 := Lib.hid hb
  have BW2 : Hid (Below w.heap.size w w2) := BW1.out.trans (hb.mono BW1.out.size)
  clear hr hs2
  have z2 : w1.heap.size ≤ w2.heap.size := hb.size
  have z20 : w.heap.size < w2.heap.size := by omega
  have z21 : w.heap.size + 1 < w2.heap.size := by omega
  have P0' := old_cell hb P0 (by omega)
  have P1' := old_cell hb P1 (by omega)
  have P2' := old_cell hb P2 (by omega)
  have P3' := old_cell hb P3 (by omega)
  have P4' := old_cell hb P4 (by omega)
  have P5' := old_cell hb P5 (by omega)
  have Q0' := old_cell hb Q0 (by omega)
  have Q1' := old_cell hb Q1 (by omega)
  have Q2' := old_cell hb Q2 (by omega)
  clear hb P0 P1 P2 P3 P4 P5 Q0 Q1 Q2
  cases r with
  | false =>
    go_wp2
    go_ret
    exact Tells.no (fun h => by have := HR.out.2 h.dv; cases this) (BW2.out.alloc BW2.out.size _)
  | true =>
    obtain ⟨hSp, hOf, hX⟩ := HS2.out rfl
    have SP := Lib.hid hSp
    have OF := Lib.hid hOf
    have HX := Lib.hid hX
    have DV := Lib.hid (HR.out.1 rfl)
    clear hSp hOf hX HS2 HR
    have BW3 : Hid (Below w.heap.size w (w2.alloc (.cells #[.slice Ak kp.length ck, .slice Ap pl.length cp, .slice Ar rm.length cr] 133))) := BW2.out.alloc BW2.out.size _
    go_wp2_with fail
    refine (outgoing_c n al mr ed ⟨A1, c1, A2, c2, A3, c3⟩ _ hn (HP.out.au.ed.below EdE.stays BW3.out) lE (fun x hx => ?_)).mono ?_
    · obtain ⟨j, hj, rfl⟩ := List.mem_iff_getElem.1 hx
      have := S.out.ha.ed j hj _ (List.getElem?_eq_getElem hj)
      exact ⟨this.1, this.2.1⟩
    rintro e w3 ⟨bo, rfl, hbo, hrows, hb3⟩
    have E3 : Hid (KEnv w3 w.heap.size w2.heap.size [Value.slice A1 al.length c1, .int .i64 n, .slice A2 mr.length c2, .slice A3 ed.length c3, .slice AF forb.length cF, .slice AU unc.length cU] [Value.slice AK kept.length cK, .slice AD dist.length cD, .slice AR rm.length cR] [Value.slice Ak kp.length ck, .slice Ap pl.length cp, .slice Ar rm.length cr]) := by
      refine Lib.hid (KEnv.below ⟨fun j v h => ?_, fun j v h => ?_, fun j v h => (new_cell w2 _ [_, _, _] _ j rfl).trans h, by simp; omega, by simp⟩ hb3)
      · rw [alloc_cell _ _ _ _ z20]
        match j, h with
        | 0, h => cases h; exact P0'
        | 1, h => cases h; exact P1'
        | 2, h => cases h; exact P2'
        | 3, h => cases h; exact P3'
        | 4, h => cases h; exact P4'
        | 5, h => cases h; exact P5'
      · rw [alloc_cell _ _ _ _ z21]
        match j, h with
        | 0, h => cases h; exact Q0'
        | 1, h => cases h; exact Q1'
        | 2, h => cases h; exact Q2'
    have BW4 : Hid (Below w.heap.size w w3) := BW3.out.trans (hb3.mono BW3.out.size)
    have ROWS := Lib.hid hrows
    have SP3 := Lib.hid (SP.out.below ((Below.new w2 (.cells #[.slice Ak kp.length ck, .slice Ap pl.length cp, .slice Ar rm.length cr] 133)).trans (hb3.mono (by simp))))
    clear hrows hb3 P0' P1' P2' P3' P4' P5' Q0' Q1' Q2' BW3
    have HES := Lib.hid (show ∀ (i : Nat) (x : Ed), x ∈ outOf ed i → 0 ≤ x.dst ∧ x.dst < (n : Int) from fun i x hx => by
      have hx' : x ∈ ed := (List.mem_filter.1 hx).1
      obtain ⟨j, hj, rfl⟩ := List.mem_iff_getElem.1 hx'
      have := S.out.ha.ed j hj _ (List.getElem?_eq_getElem hj)
      exact ⟨this.2.2.1, this.2.2.2.1⟩)
    have HKI := Lib.hid (show ∀ i : Nat, i < n → (kp[i]? = some true ↔ (i : Int) ∈ kept) from fun i hi => by
      rcases OF.out.all i hi with ⟨a, k, _, c⟩ | ⟨a, k, r, _, c, d⟩
      · simp only at a; simp [a, List.mem_of_getElem? c]
      · have hno : (i : Int) ∉ kept := by
          have := DV.out.hr k (List.getElem?_eq_some_iff.1 c).1 r c
          rw [d] at this; exact this.2.2.1
        simp only at a; simp [a, hno])
    have f0 := E3.out.q 0 _ rfl
    have z3 := E3.out.z
    go_wp2
    go_loopw [43] (fun i wr => ∃ k : Nat, k ≤ kept.length ∧ i = .int .i64 k ∧ Hid (Below w3.heap.size w3 wr) ∧ Hid (∀ (j : Nat) (i d : Int), j < k → kept[j]? = some i → dist[j]? = some d → keepsS forb unc mr kept dist (outOf ed i.toNat) i d)) (fun i _ => kept.length - (intOf i).toNat)
    case atStart => exact ⟨0, by omega, rfl, Below.refl _ _, fun j i d h => absurd h (by omega)⟩
    case round =>
      obtain ⟨k, hk, rfl, BR, HK⟩ := hrel
      have ER := Lib.hid (E3.out.below BR.out)
      have BW5 : Hid (Below w.heap.size w wr) := BW4.out.trans (BR.out.mono BW4.out.size)
      have p0 := ER.out.p 0 _ rfl
      have p1 := ER.out.p 1 _ rfl
      have p2 := ER.out.p 2 _ rfl
      have p3 := ER.out.p 3 _ rfl
      have p4 := ER.out.p 4 _ rfl
      have p5 := ER.out.p 5 _ rfl
      have q0 := ER.out.q 0 _ rfl
      have q1 := ER.out.q 1 _ rfl
      have q2 := ER.out.q 2 _ rfl
      have t0 := ER.out.t 0 _ rfl
      have t1 := ER.out.t 1 _ rfl
      have t2 := ER.out.t 2 _ rfl
      have zr := ER.out.z
      clear f0
      by_cases hlt : k < kept.length
      · obtain ⟨b, off, x, hAK, hbk, hx, hcx⟩ := IntsAt.at (HC.out.hk.below IntE.stays BW5.out) hlt
        have hxn := DV.out.hk k x hlt hx
        obtain ⟨i, rfl⟩ := Int.eq_ofNat_of_zero_le hxn.1
        have hin : i < n := by have := hxn.2.1; omega
        clear hxn
        simp only at hAK
        subst hAK
        obtain ⟨AE, cE, hbo', hrow, lEs, hEs⟩ := RowsAt.row (ROWS.out.below (RowE.stays EdE.stays) BR.out) hin
        have HX2 := Lib.hid hx
        have HEs := Lib.hid hEs
        clear hx hEs
        obtain ⟨d, hd⟩ : ∃ d, dist[k]? = some d := ⟨_, List.getElem?_eq_getElem (by have := HL.out; omega)⟩
        have HD := Lib.hid hd
        clear hd
        obtain ⟨hpi, hpl2⟩ : pl[i]? = some (k : Int) ∧ ∀ t : Nat, kp[t]? = some true → ∃ k : Nat, pl[t]? = some (k : Int) ∧ k < dist.length := by
          have key : ∀ t : Nat, kp[t]? = some true → ∃ k : Nat, pl[t]? = some (k : Int) ∧ kept[k]? = some (t : Int) := fun t ht => by
            have htn : t < n := by have := (List.getElem?_eq_some_iff.1 ht).1; have := OF.out.lk; simp only at this; omega
            rcases OF.out.all t htn with ⟨_, k, b, c⟩ | ⟨a, _⟩
            · exact ⟨k, b, c⟩
            · simp only at a; rw [ht] at a; cases a
          refine ⟨?_, fun t ht => ?_⟩
          · obtain ⟨k', a, b⟩ := key i ((HKI.out i hin).2 (List.mem_of_getElem? HX2.out))
            have : k' = k := by
              rcases Nat.lt_trichotomy k' k with h | h | h
              · have := OF.out.incr k' k _ _ h b HX2.out; omega
              · exact h
              · have := OF.out.incr k k' _ _ h HX2.out b; omega
            subst this; exact a
          · obtain ⟨k', a, b⟩ := key t ht
            exact ⟨k', a, by have := (List.getElem?_eq_some_iff.1 b).1; have := HL.out; omega⟩
        have HPI := Lib.hid hpi
        have HPL := Lib.hid hpl2
        clear hpi hpl2
        go_wp2
        go_still_tail 9, (by kernel_rfl)
        change wpList _ _ _ _ _ wr.drew
        have BWD := Lib.hid BW5.out.drew
        have BRD := Lib.hid BR.out.drew
        go_wp2_with fail
        refine (keeps_c ⟨al, n, mr, ed⟩ forb unc ⟨⟨A1, c1, A2, c2, A3, c3⟩, AF, cF, AU, cU⟩ ⟨kp, pl, rm⟩ ⟨Ak, ck, Ap, cp, Ar, cr⟩ AE cE (outOf ed i) i k AD cD dist d _ (HP.out.below BWD.out) (SP3.out.below BRD.out) n OF.out.lk OF.out.lp
          (HEs.out.below EdE.stays (Below.refl _ wr).drew) lEs (HC.out.hd.below IntE.stays BWD.out) ld S.out.hf.incr S.out.hu.incr S.out.ha.mr.incr hin HPI.out HD.out (HES.out i) HPL.out).mono ?_
        intro e w4 hs
        rcases hs.no1 with ⟨rfl, SK, hb⟩ | ⟨rfl, SK, hb⟩
        · go_wp2
          go_ret
          exact Tells.no (fun h => SK.out ((keeps_iff OF.out HX.out HKI.out (HES.out i)).2 (h.ks k i d HX2.out HD.out))) (BWD.out.trans (hb.mono BWD.out.size))
        · have SK2 := Lib.hid ((keeps_iff OF.out HX.out HKI.out (HES.out i)).1 SK.out)
          have B5 := Lib.hid hb
          clear hb
          go_wp2
          go_roundw
          case rel => exact ⟨k + 1, by omega, by go_num, BRD.out.trans (B5.out.mono BRD.out.size), fun j i' d' hj h1 h2 => by
            by_cases e : j = k
            · subst e
              rw [HX2.out] at h1; cases h1
              rw [HD.out] at h2; cases h2
              exact SK2.out
            · exact HK.out j i' d' (by omega) h1 h2⟩
          case measure => simp [intOf]; omega
      · obtain rfl : k = kept.length := by omega
        clear p0 p1 p2 p3 p4 p5 q0 q1 t0 t1 t2
        go_wp2
        obtain ⟨wo, rfl⟩ : ∃ wo : World, wo = wr := ⟨_, rfl⟩
        go_loopw [62] (fun i wx => ∃ m : Nat, m ≤ rm.length ∧ i = .int .i64 m ∧ Hid (Below wo.heap.size wo wx) ∧ Hid (∀ (j : Nat) (r : Rm), j < m → rm[j]? = some r → removesP forb unc mr rm (outOf ed r.st.toNat) r)) (fun i _ => rm.length - (intOf i).toNat)
        case atStart => exact ⟨0, by omega, rfl, Below.refl _ _, fun j r h => absurd h (by omega)⟩
        case round =>
          obtain ⟨m, hm, rfl, BX, HM⟩ := hrel
          have EX := Lib.hid (ER.out.below BX.out)
          have BW6 : Hid (Below w.heap.size w wr) := BW5.out.trans (BX.out.mono BW5.out.size)
          have BR6 : Hid (Below w3.heap.size w3 wr) := BR.out.trans (BX.out.mono BR.out.size)
          clear q2 zr
          have p0 := EX.out.p 0 _ rfl
          have p1 := EX.out.p 1 _ rfl
          have p2 := EX.out.p 2 _ rfl
          have p3 := EX.out.p 3 _ rfl
          have p4 := EX.out.p 4 _ rfl
          have p5 := EX.out.p 5 _ rfl
          have t0 := EX.out.t 0 _ rfl
          have t1 := EX.out.t 1 _ rfl
          have t2 := EX.out.t 2 _ rfl
          have zx := EX.out.z
          have zx0 : w.heap.size < wr.heap.size := by omega
          have zx5 := EX.out.z5
          by_cases hlt : m < rm.length
          · obtain ⟨r, hr⟩ : ∃ r, rm[m]? = some r := ⟨_, List.getElem?_eq_getElem hlt⟩
            obtain ⟨b, off, hAR, hbr, e0, e1, e2, e3⟩ := RmsAt.get (HC.out.hr.below RmE.stays BW6.out) hr
            simp only at hAR
            subst hAR
            have hrn := DV.out.hr m hlt r hr
            obtain ⟨st, rank, reason, ev⟩ := r
            obtain ⟨i, rfl⟩ := Int.eq_ofNat_of_zero_le hrn.1
            have hin : i < n := by have := hrn.2.1; simp only at this; omega
            clear hrn
            dsimp only at e0 e1 e2 e3
            obtain ⟨AE, cE, hbo', hrow, lEs, hEs⟩ := RowsAt.row (ROWS.out.below (RowE.stays EdE.stays) BR6.out) hin
            have HRR := Lib.hid hr
            have HEs := Lib.hid hEs
            clear hr hEs
            have BN0 := Lib.hid (Below.new wr (.cells #[.int .i64 (i : Int), .int .i64 rank, .int .i64 reason, .int .i64 ev] 83))
            have EW := Lib.hid (EX.out.below BN0.out)
            have x0 := new_cell wr 83 [.int .i64 (i : Int), .int .i64 rank, .int .i64 reason, .int .i64 ev] wr.heap.size 0 rfl
            have x1 := new_cell wr 83 [.int .i64 (i : Int), .int .i64 rank, .int .i64 reason, .int .i64 ev] wr.heap.size 1 rfl
            have x2 := new_cell wr 83 [.int .i64 (i : Int), .int .i64 rank, .int .i64 reason, .int .i64 ev] wr.heap.size 2 rfl
            have x3 := new_cell wr 83 [.int .i64 (i : Int), .int .i64 rank, .int .i64 reason, .int .i64 ev] wr.heap.size 3 rfl
            have hrow' := old_cell BN0.out hrow hbo'
            go_wp2
            clear p0 p1 p2 p3 p4 p5 t0 t1 t2 hrow e0 e1 e2 e3
            generalize hW : wr.alloc (.cells #[.int .i64 (i : Int), .int .i64 rank, .int .i64 reason, .int .i64 ev] 83) = W at *
            clear hW
            have p0 := EW.out.p 0 _ rfl
            have p1 := EW.out.p 1 _ rfl
            have p2 := EW.out.p 2 _ rfl
            have p3 := EW.out.p 3 _ rfl
            have p4 := EW.out.p 4 _ rfl
            have p5 := EW.out.p 5 _ rfl
            have t0 := EW.out.t 0 _ rfl
            have t1 := EW.out.t 1 _ rfl
            have t2 := EW.out.t 2 _ rfl
            go_still_tail 8, (by kernel_rfl)
            change wpList _ _ _ _ _ (World.drew _)
            have BN : Hid (Below wr.heap.size wr W.drew) := BN0.out.drew
            have BWD : Hid (Below w.heap.size w W.drew) := BW6.out.trans (BN.out.mono BW6.out.size)
            go_wp2_with fail
            refine (removes_c ⟨al, n, mr, ed⟩ forb unc ⟨⟨A1, c1, A2, c2, A3, c3⟩, AF, cF, AU, cU⟩ ⟨kp, pl, rm⟩ ⟨Ak, ck, Ap, cp, Ar, cr⟩ AE cE (outOf ed i) ⟨i, rank, reason, ev⟩ _ (HP.out.below BWD.out) (SP3.out.below (BR6.out.trans (BN.out.mono BR6.out.size))) n kept OF.out HX.out
              (HEs.out.below EdE.stays BN.out) lEs S.out.hf.incr S.out.hu.incr S.out.ha.mr.incr (HES.out i)).mono ?_
            intro e w4 hs
            rcases hs.no1 with ⟨rfl, SK, hb⟩ | ⟨rfl, SK, hb⟩
            · go_wp2
              go_ret
              exact Tells.no (fun h => SK.out (h.rs _ (List.mem_of_getElem? HRR.out))) (BWD.out.trans (hb.mono BWD.out.size))
            · have B5 := Lib.hid hb
              clear hb
              go_wp2
              go_roundw
              case rel => exact ⟨m + 1, by omega, by go_num, BX.out.trans ((BN.out.trans (B5.out.mono BN.out.size)).mono BX.out.size), fun j r hj h1 => by
                by_cases e : j = m
                · subst e
                  rw [HRR.out] at h1; cases h1
                  exact SK.out
                · exact HM.out j r (by omega) h1⟩
              case measure => simp [intOf]; omega
          · obtain rfl : m = rm.length := by omega
            go_wp2
            go_ret
            exact Tells.yes ⟨S.out, HL.out, by simpa using DV.out, fun k i d h1 h2 => HK.out k i d (List.getElem?_eq_some_iff.1 h1).1 h1 h2, fun r hr => by
              obtain ⟨j, hj, rfl⟩ := List.mem_iff_getElem.1 hr
              exact HM.out j _ hj (List.getElem?_eq_getElem hj)⟩ BW6.out
end Go.Proofs.Ytkbmenpggiojeaa
