/-
  The checker's lassos: numbers deleted from a list of the call's own; whether two words are alike.
-/
import Derived.Test.YtkbmenpggiojeaaLe
namespace Go.Proofs.Ytkbmenpggiojeaa
open Go.RowKit
set_option linter.unusedSimpArgs false
set_option linter.unusedVariables false

theorem Below.setCells {B : Nat} {a : World} {g : Nat} (hB : B ≤ g) : ∀ (vs : List Value) (o : Nat) (w : World), Below B a w → Below B a (w.setCells g o vs)
  | [], _, _, h => h
  | _ :: vs, o, w, h => Below.setCells hB vs (o + 1) _ (h.setCell (p := ⟨g, o, none⟩) hB _)

/-- The contract of a function that gives a list that can be read. -/
def GivesAt (B : Nat) (l : List Int) (w : World) (e : Ending) (w' : World) : Prop := ∃ A c, e = .returned (.slice A l.length c) ∧ Hid (IntsAt w' A l) ∧ Hid (w.heap.size ≤ w'.heap.size) ∧ Below B w w'

/-- The memory of the loop: i numbers are left of the first j ones. -/
structure Left (B : Nat) (q : Int → Bool) (l : List Int) (c g : Nat) (w : World) (i j : Nat) (wr : World) : Prop where
  ij : i < j
  jn : j ≤ l.length
  cs : ∃ cs : List Value, BlkAt wr g 3 cs ∧ cs.length = c ∧ cs.take i = ((l.take j).filter (fun x => !q x)).map (Value.int .i64) ∧ (cs.drop j).take (l.length - j) = (l.drop j).map (Value.int .i64)
  len : i = ((l.take j).filter (fun x => !q x)).length
  bel : Below B w wr
  sz : w.heap.size ≤ wr.heap.size
  hg : B ≤ g
  gw : g < wr.heap.size

theorem take_filter (l : List Int) (q : Int → Bool) (k : Nat) (h : ∀ j y, j < k → l[j]? = some y → ¬ q y = true) : (l.take k).filter (fun x => !q x) = l.take k := by
  rw [List.filter_eq_self]
  intro a ha
  obtain ⟨j, hj, rfl⟩ := List.mem_iff_getElem.1 ha
  have hj' : j < k := by simp at hj; omega
  have := h j (l.take k)[j] hj' (by rw [List.getElem_take]; exact List.getElem?_eq_getElem _)
  simpa using this

theorem Left.start {B : Nat} {q : Int → Bool} {l : List Int} {c g : Nat} {w w1 : World} {cs : List Value} {k : Nat} {x : Int} (hb : BlkAt w g 3 cs) (hB : B ≤ g) (hBw : B ≤ w.heap.size) (hc : cs.length = c) (hn : l.length ≤ cs.length) (ht : cs.take l.length = l.map (Value.int .i64))
    (hx : l[k]? = some x) (hq : q x = true) (h : ∀ j y, j < k → l[j]? = some y → ¬ q y = true) (h1 : Below w.heap.size w w1) : Left B q l c g w k (k + 1) w1 := by
  have hk : k < l.length := (List.getElem?_eq_some_iff.1 hx).1
  have hf : (l.take (k + 1)).filter (fun x => !q x) = l.take k := by
    rw [List.take_add_one, hx, List.filter_append, take_filter l q k h]
    simp [hq]
  refine ⟨by omega, by omega, ⟨cs, hb.below h1 hb.lt, hc, ?_, ?_⟩, ?_, h1.mono hBw, h1.size, hB, Nat.lt_of_lt_of_le hb.lt h1.size⟩
  · rw [hf, List.map_take, ← ht, List.take_take, Nat.min_eq_left (by omega)]
  · rw [List.map_drop, ← ht, List.drop_take]
  · rw [hf]; simp; omega

theorem Left.at {B : Nat} {q : Int → Bool} {l : List Int} {c g : Nat} {w wr : World} {i j : Nat} (h : Left B q l c g w i j wr) (hj : j < l.length) :
    ∃ x, l[j]? = some x ∧ wr.cell? ⟨g, j, none⟩ = some (.int .i64 x) := by
  obtain ⟨cs, hb, hc, h1, h2⟩ := h.cs
  refine ⟨l[j], List.getElem?_eq_getElem hj, ?_⟩
  have : ((cs.drop j).take (l.length - j))[0]? = some (.int .i64 l[j]) := by rw [h2]; simp [hj]
  rw [List.getElem?_take, if_pos (by omega), List.getElem?_drop] at this
  rw [hb.cell]; exact this
theorem Left.cell {B : Nat} {q : Int → Bool} {l : List Int} {c g : Nat} {w wr : World} {i j : Nat} (h : Left B q l c g w i j wr) (hlc : l.length ≤ c) {t : Nat} (ht : t < l.length) :
    (wr.cell? ⟨g, t, none⟩).isSome = true ∧ wr.frozen? ⟨g, t, none⟩ = false := by
  obtain ⟨cs, hb, hc, h1, h2⟩ := h.cs
  refine ⟨?_, hb.free t⟩
  rw [hb.cell, List.getElem?_eq_getElem (by omega)]; rfl
theorem Left.skip {B : Nat} {q : Int → Bool} {l : List Int} {c g : Nat} {w wr w1 : World} {i j : Nat} (h : Left B q l c g w i j wr) {x : Int} (hx : l[j]? = some x) (hq : q x = true) (h1 : Below wr.heap.size wr w1) (hBw : B ≤ w.heap.size) : Left B q l c g w i (j + 1) w1 := by
  obtain ⟨hij, hjn, ⟨cs, hb, hc, h2, h3⟩, hl, hbe, hsz, hg, hgw⟩ := h
  have hj : j < l.length := (List.getElem?_eq_some_iff.1 hx).1
  have hf : (l.take (j + 1)).filter (fun x => !q x) = (l.take j).filter (fun x => !q x) := by
    rw [List.take_add_one, hx, List.filter_append]; simp [hq]
  refine ⟨by omega, hj, ⟨cs, hb.below h1 hb.lt, hc, by rw [hf]; exact h2, ?_⟩, by rw [hf]; exact hl, hbe.trans (h1.mono (by omega)), Nat.le_trans hsz h1.size, hg, Nat.lt_of_lt_of_le hgw h1.size⟩
  have := congrArg (List.drop 1) h3
  rw [List.drop_take, List.drop_drop, ← List.map_drop, List.drop_drop, show l.length - j - 1 = l.length - (j + 1) by omega] at this
  exact this
theorem Left.keep {B : Nat} {q : Int → Bool} {l : List Int} {c g : Nat} {w wr w1 : World} {i j : Nat} (h : Left B q l c g w i j wr) {x : Int} (hx : l[j]? = some x) (hq : q x = false) (h1 : Below wr.heap.size wr w1) (hBw : B ≤ w.heap.size) (hlc : l.length ≤ c) : Left B q l c g w (i + 1) (j + 1) (w1.setCell ⟨g, i, none⟩ (.int .i64 x)) := by
  obtain ⟨hij, hjn, ⟨cs, hb, hc, h2, h3⟩, hl, hbe, hsz, hg, hgw⟩ := h
  have hj : j < l.length := (List.getElem?_eq_some_iff.1 hx).1
  have hf : (l.take (j + 1)).filter (fun x => !q x) = (l.take j).filter (fun x => !q x) ++ [x] := by
    rw [List.take_add_one, hx, List.filter_append]; simp [hq]
  refine ⟨by omega, hj, ⟨cs.set i (.int .i64 x), (hb.below h1 hb.lt).set_ i _, by simp [hc], ?_, ?_⟩, by rw [hf]; simp; exact hl, (hbe.trans (h1.mono (by omega))).setCell (p := ⟨g, i, none⟩) hg _, Nat.le_trans hsz (by simpa using h1.size), hg, by simpa using Nat.lt_of_lt_of_le hgw h1.size⟩
  · rw [hf, List.map_append, ← h2, List.take_add_one, List.getElem?_set_self (by omega), List.take_set_of_le (Nat.le_refl _)]; rfl
  · have := congrArg (List.drop 1) h3
    rw [List.drop_take, List.drop_drop, ← List.map_drop, List.drop_drop, show l.length - j - 1 = l.length - (j + 1) by omega] at this
    rw [List.drop_set_of_lt (by omega)]
    exact this
theorem Left.done {B : Nat} {q : Int → Bool} {l : List Int} {c g : Nat} {w wr : World} {i : Nat} (h : Left B q l c g w i l.length wr) (vs : List Value) :
    i = (l.filter (fun x => !q x)).length ∧ IntsAt (wr.setCells g i vs) (some ⟨g, 0, none⟩) (l.filter (fun x => !q x)) ∧ Below B w (wr.setCells g i vs) ∧ w.heap.size ≤ (wr.setCells g i vs).heap.size := by
  obtain ⟨hij, hjn, ⟨cs, hb, hc, h2, h3⟩, hl, hbe, hsz, hg, hgw⟩ := h
  rw [List.take_length] at h2 hl
  have hz : wr.heap.size ≤ (wr.setCells g i vs).heap.size := (Below.setCells (B := 0) (a := wr) (Nat.zero_le _) vs i wr (Below.refl _ _)).size
  refine ⟨hl, fun _ => ⟨g, 0, rfl, Nat.lt_of_lt_of_le hgw hz, fun t x hx => ⟨[.int .i64 x], rfl, rfl, fun j v hj => ?_⟩⟩, Below.setCells hg vs i wr hbe, Nat.le_trans hsz hz⟩
  cases j with
  | succ j => simp at hj
  | zero =>
    simp at hj
    subst hj
    have ht : t < i := by rw [hl]; exact (List.getElem?_eq_some_iff.1 hx).1
    rw [World.cell?_setCells_out _ _ _ _ _ (fun _ _ => .inl (by simp; omega)), hb.cell]
    have : (cs.take i)[t]? = some (.int .i64 x) := by rw [h2, List.getElem?_map, hx]; rfl
    rw [List.getElem?_take, if_pos ht] at this
    simpa using this

set_option maxRecDepth 100000 in
set_option maxHeartbeats 1000000 in
theorem deleteI_c (g : Nat) (lb : Array Value) (eg : ∀ args w, (callFunc g args).run Try.prog w = .ok (.enter g args) w) (q : Int → Bool) (B : Nat) (A : Option Addr) (c : Nat) (l : List Int) (w : World) (hBw : B ≤ w.heap.size)
    (h : OwnInts B l (.slice A l.length c) w) (hl : l.length ≤ 1048576) (hp : ∀ (W : World) (x : Int), x ∈ l → Below B w W → Calls Try.prog g (#[.int .i64 x] ++ lb) W (Tells (q x = true) W)) :
    Calls Try.prog 79 #[.slice A l.length c, .func (.func g) #[] lb] w (GivesAt B (l.filter (fun x => !q x)) w) := by
  have HC := Lib.hid (indexI_c g lb eg (fun x => q x = true) A c l w h.reads (by omega) (fun W x hx hb => hp W x hx (hb.mono hBw)))
  have HP := Lib.hid hp
  have HO := Lib.hid h
  clear hp h
  go_enter Try.func79, Try.ntmps79
  go_wp2_with fail
  refine HC.out.mono ?_
  rintro e w1 ⟨r, rfl, hr, hb⟩
  have BH := Lib.hid hb
  clear hb HC
  rcases hr with ⟨rfl, hr⟩ | ⟨k, x, rfl, hx, hq, hr⟩
  · have HR := Lib.hid hr
    clear hr
    go_wp2
    have hf : l.filter (fun x => !q x) = l := by
      rw [List.filter_eq_self]; intro a ha; simpa using HR.out a ha
    refine bodyPost_ret (v := .slice A l.length c) (by simp [results, Try.results79, go_sem]) rfl ?_
    rw [hf]
    exact ⟨A, c, rfl, HO.out.reads.below IntE.stays BH.out, BH.out.size, BH.out.mono hBw⟩
  · have hk : k < l.length := (List.getElem?_eq_some_iff.1 hx).1
    obtain ⟨A', c', hv, hO⟩ := HO.out
    cases hv
    rcases hO with rfl | ⟨gb, cs, rfl, hB, hbk, hlc, htk, hlcc, hcc, hmx⟩
    · simp at hk
    have HL := Lib.hid (Left.start hbk hB hBw hcc.symm hlc htk hx hq hr BH.out)
    have hkm1 : ((k : Int) == -1) = false := by rw [beq_eq_false_iff_ne]; omega
    have hB' := Lib.hid hB
    have hBw' := hBw
    clear hbk htk hx hq hr HO hlc BH hB hBw
    rw [← hcc] at hmx
    clear hcc
    go_wp2
    go_loopw [5, 6] (fun a d wr => ∃ i j : Nat, j ≤ l.length ∧ i < j ∧ a = .int .i64 i ∧ d = .int .i64 j ∧ Hid (Left B q l c gb w i j wr)) (fun _ d _ => l.length - (intOf d).toNat)
    case atStart => exact ⟨k, k + 1, by omega, by omega, rfl, by go_num, HL⟩
    case round =>
      obtain ⟨i, j, hj, hij, rfl, rfl, HI⟩ := hrel
      by_cases hlt : j < l.length
      · obtain ⟨x, hx, e0⟩ := HI.out.at hlt
        have hz := HI.out.gw
        have hc := Lib.hid (HP.out wr x (List.mem_of_getElem? hx) HI.out.bel)
        have HX := Lib.hid hx
        clear hx
        go_wp2_with fail
        refine hc.out.mono ?_
        intro e w2 hs
        rcases hs.no1 with ⟨rfl, S, hb1⟩ | ⟨rfl, S, hb1⟩
        · have b2 := HI.out.cell hlcc (t := i) (by omega)
          have b1 : ∃ u, w2.cell? ⟨gb, i, none⟩ = some u := by rw [hb1.cell (p := ⟨gb, i, none⟩) hz]; exact Option.isSome_iff_exists.1 b2.1
          obtain ⟨u, hu⟩ := b1
          have hfz : w2.frozen? ⟨gb, i, none⟩ = false := (hb1.frozen (p := ⟨gb, i, none⟩) hz).trans b2.2
          have HB1 := Lib.hid hb1
          clear hb1 b2 e0
          go_wp2
          go_roundw
          case rel => exact ⟨i + 1, j + 1, by omega, by omega, by go_num, by go_num, HI.out.keep HX.out (by simpa using S.out) HB1.out hBw' hlcc⟩
          case measure => simp [intOf]; omega
        · go_wp2
          go_roundw
          case rel => exact ⟨i, j + 1, by omega, by omega, rfl, by go_num, HI.out.skip HX.out S.out hb1 hBw'⟩
          case measure => simp [intOf]; omega
      · obtain rfl : j = l.length := by omega
        have hcl : ∀ ty, (Builtin.clear_ #[36] ty #[.slice (some ⟨gb, i, none⟩) (l.length - i) (c - i)]).run Try.prog wr = .ok (.tuple #[]) (wr.setCells gb i (List.replicate (l.length - i) (.int .i64 0))) :=
          fun ty => Lib.run_clear_slice wr _ _ ty _ Try.underlying36 (by intro w; kernel_rfl) rfl rfl gb i _ _ (by omega) (fun t ht => (HI.out.cell hlcc (t := i + t) (by omega)).1) (fun t ht => (HI.out.cell hlcc (t := i + t) (by omega)).2)
        go_wp2_with fail
        have HD := Lib.hid (HI.out.done (List.replicate (l.length - i) (.int .i64 0)))
        go_ret
        obtain ⟨h1, h2, h3, h4⟩ := HD.out
        exact ⟨some ⟨gb, 0, none⟩, c, by rw [← h1]; rfl, h2, h4, h3⟩

/-- The observable events of a word. -/
def seen (evs : List Ev) (l : List Int) : List Int := l.filter (fun x => (evAt evs x).obs)

set_option maxHeartbeats 400000 in
theorem observe_c (b1 : Nat) (AE : Option Addr) (cE : Nat) (evs : List Ev) (A : Option Addr) (c : Nat) (l : List Int) (w : World)
    (h1 : w.cell? ⟨b1, 0, none⟩ = some (.slice AE evs.length cE)) (hb1 : b1 < w.heap.size) (hE : EvsAt w AE evs) (lev : evs.length ≤ 140737488355328) (hA : IntsAt w A l) (ll : l.length ≤ 1048576) (hl : InEvs evs l) :
    Calls Try.prog 78 #[.slice A l.length c, .pointer (some ⟨b1, 0, none⟩)] w (GivesAt w.heap.size (seen evs l) w) := by
  have HC := Lib.hid (cloneI_c A c l w hA ll (fun e => by
    by_cases h : l = []
    · exact h
    · obtain ⟨b, off, h2, _⟩ := hA h
      rw [e] at h2; cases h2))
  have HD := Lib.hid (fun (A1 : Option Addr) (c1 : Nat) (w1 : World) (ho : OwnInts w.heap.size l (.slice A1 l.length c1) w1) (hb : Below w.heap.size w w1) =>
    deleteI_c 81 #[.pointer (some ⟨b1, 0, none⟩)] (enters_of Try.func81 (by kernel_rfl) rfl) (fun x => !(evAt evs x).obs) w.heap.size A1 c1 l w1 hb.size ho ll (by
      intro W x hx hW
      obtain ⟨h0, h2⟩ := hl x hx
      obtain ⟨t, rfl⟩ := Int.eq_ofNat_of_zero_le h0
      have hbW := hb.trans hW
      refine (alike1_c b1 AE cE evs t W ((hbW.cell (p := ⟨b1, 0, none⟩) hb1).trans h1) (hE.below EvE.stays hbW) (by omega) lev).mono ?_
      rintro e w' ⟨r, rfl, hr, hb'⟩
      exact ⟨r, rfl, by rw [hr]; simp, hb'⟩))
  clear h1 hE hA hl
  go_enter Try.func78, Try.ntmps78
  go_wp2_with fail
  refine HC.out.mono ?_
  rintro e w1 ⟨A1, c1, rfl, ho, hb⟩
  have BW := Lib.hid hb
  clear hb
  go_wp2_with fail
  refine (HD.out A1 c1 w1 ho.out BW.out).mono ?_
  rintro e w2 ⟨A2, c2, rfl, h2, hz, hb⟩
  have hf : l.filter (fun x => !(fun x => !(evAt evs x).obs) x) = seen evs l := by unfold seen; congr 1; funext x; simp
  rw [hf] at h2 ⊢
  have B2 := Lib.hid hb
  clear hb
  go_wp2
  go_ret
  exact ⟨A2, c2, rfl, h2, Nat.le_trans BW.out.size hz.out, BW.out.trans B2.out⟩

theorem seen_le (evs : List Ev) (l : List Int) : (seen evs l).length ≤ l.length := List.length_filter_le ..

set_option maxHeartbeats 400000 in
theorem alikeW_c (AE : Option Addr) (cE : Nat) (evs : List Ev) (A1 A2 : Option Addr) (c1 c2 : Nat) (l1 l2 : List Int) (w : World)
    (hE : EvsAt w AE evs) (lev : evs.length ≤ 140737488355328) (h1 : IntsAt w A1 l1) (n1 : l1.length ≤ 1048576) (i1 : InEvs evs l1) (h2 : IntsAt w A2 l2) (n2 : l2.length ≤ 1048576) (i2 : InEvs evs l2) :
    Calls Try.prog 45 #[.slice AE evs.length cE, .slice A1 l1.length c1, .slice A2 l2.length c2] w (Tells (seen evs l1 = seen evs l2) w) := by
  have H0 : ∀ w1, Below (w.heap.size + 1) (w.alloc (.cells #[.slice AE evs.length cE] 35)) w1 → Below w.heap.size w w1 ∧ w1.cell? ⟨w.heap.size, 0, none⟩ = some (.slice AE evs.length cE) ∧ w.heap.size < w1.heap.size := fun w1 hb =>
    ⟨(Below.new w _).trans (hb.mono (by omega)), (hb.cell (p := ⟨w.heap.size, 0, none⟩) (by simp)).trans (new_cell w _ [_] _ 0 rfl), by have := hb.size; simp at this; omega⟩
  have HO := Lib.hid (fun (A : Option Addr) (c : Nat) (l : List Int) (hA : IntsAt w A l) (ll : l.length ≤ 1048576) (hl : InEvs evs l) (w1 : World) (hb : Below (w.heap.size + 1) (w.alloc (.cells #[.slice AE evs.length cE] 35)) w1) =>
    observe_c w.heap.size AE cE evs A c l w1 (H0 w1 hb).2.1 (H0 w1 hb).2.2 (hE.below EvE.stays (H0 w1 hb).1) lev (hA.below IntE.stays (H0 w1 hb).1) ll hl)
  have HH0 := Lib.hid H0
  have H1 := Lib.hid h1
  have H2 := Lib.hid h2
  have I1 := Lib.hid i1
  have I2 := Lib.hid i2
  clear hE h1 h2 i1 i2 H0
  go_enter Try.func45, Try.ntmps45
  go_wp2_with fail
  have B0 : Hid (Below (w.heap.size + 1) (w.alloc (.cells #[.slice AE evs.length cE] 35)) (w.alloc (.cells #[.slice AE evs.length cE] 35))) := Below.refl _ _
  generalize hW : w.alloc (.cells #[.slice AE evs.length cE] 35) = W0 at *
  clear hW
  refine (HO.out A1 c1 l1 H1.out n1 I1.out W0 B0.out).mono ?_
  rintro e w1 ⟨A3, c3, rfl, h3, hz, hb⟩
  have B1 := Lib.hid (hb.mono (B' := w.heap.size + 1) (HH0.out W0 B0.out).2.2)
  have BF := Lib.hid hb
  clear hb
  go_wp2_with fail
  refine (HO.out A2 c2 l2 H2.out n2 I2.out w1 B1.out).mono ?_
  rintro e w2 ⟨A4, c4, rfl, h4, hz4, hb⟩
  have h3' := Lib.hid (h3.out.below IntE.stays hb)
  have B2 := Lib.hid (B1.out.trans (hb.mono (B' := w.heap.size + 1) (HH0.out w1 B1.out).2.2))
  clear hb h3
  go_wp2_with fail
  have s1 := seen_le evs l1
  have s2 := seen_le evs l2
  refine (equalI_c A3 A4 c3 c4 (seen evs l1) (seen evs l2) w2 h3'.out h4.out (by omega) (by omega)).mono ?_
  rintro e w3 ⟨r, rfl, hr, hb⟩
  have HR := Lib.hid hr
  have B3 := Lib.hid (B2.out.trans (hb.mono (B' := w.heap.size + 1) (HH0.out w2 B2.out).2.2))
  clear hr hb
  go_wp2
  go_ret
  exact ⟨r, rfl, HR.out, (HH0.out w3 B3.out).1⟩
end Go.Proofs.Ytkbmenpggiojeaa
