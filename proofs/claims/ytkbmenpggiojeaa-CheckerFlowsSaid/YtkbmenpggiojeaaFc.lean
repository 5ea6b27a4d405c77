/-
  The checker's look at flows of places.
-/
import Derived.Test.YtkbmenpggiojeaaFb
import Derived.IntWalk
import Derived.Laws.EntriesVeiled
namespace Go.Proofs.Ytkbmenpggiojeaa
open Go.RowKit
set_option linter.unusedSimpArgs false
set_option linter.unusedVariables false
set_option maxRecDepth 100000

/-- The sum of the weights of arcs, each times its place's number. -/
def sumV (l : List Int) : List Arc → Int
  | [] => 0
  | x :: r => l.getD x.pl.toNat 0 * x.wt + sumV l r
theorem sumV_snoc (l : List Int) (r : List Arc) (x : Arc) : sumV l (r ++ [x]) = sumV l r + l.getD x.pl.toNat 0 * x.wt := by
  induction r with
  | nil => simp [sumV]
  | cons a r ih => simp only [List.cons_append, sumV, ih]; omega
theorem mul_bound {a b : Int} (h0 : 0 ≤ a) (h1 : a ≤ 65536) (h2 : 1 ≤ b) (h3 : b ≤ 8) : 0 ≤ a * b ∧ a * b ≤ 524288 := by
  refine ⟨Int.mul_nonneg h0 (by omega), ?_⟩
  have e1 : a * b ≤ 65536 * b := Int.mul_le_mul_of_nonneg_right h1 (by omega)
  omega
theorem getD_range {l : List Int} (hr : ∀ x, x ∈ l → 0 ≤ x ∧ x ≤ 65536) (i : Nat) : 0 ≤ l.getD i 0 ∧ l.getD i 0 ≤ 65536 := by
  rw [List.getD_eq_getElem?_getD]
  by_cases h : i < l.length
  · rw [List.getElem?_eq_getElem h]; exact hr _ (List.getElem_mem h)
  · rw [List.getElem?_eq_none (by omega)]; simp
theorem arcsOk.len {l : List Arc} {n : Nat} (h : arcsOk l n) : l.length ≤ n := by
  have key : ∀ (i : Nat) (x : Arc), l[i]? = some x → (i : Int) ≤ x.pl := by
    intro i
    induction i with
    | zero => intro x hx; have hl := (List.getElem?_eq_some_iff.1 hx).1; have := (h 0 hl x hx).1; omega
    | succ i ih =>
      intro x hx
      have hl := (List.getElem?_eq_some_iff.1 hx).1
      have hy : l[i]? = some l[i] := List.getElem?_eq_getElem (by omega)
      have h1 := ih _ hy
      have h2 := (h (i + 1) hl x hx).2.2.1 l[i] (by omega) hy
      omega
  by_cases e : l.length = 0
  · omega
  · have hx : l[l.length - 1]? = some l[l.length - 1] := List.getElem?_eq_getElem (by omega)
    have h1 := key _ _ hx
    have h2 := (h (l.length - 1) (by omega) _ hx).2.1
    omega

def Gives1 (v : Value) (w : World) (e : Ending) (w' : World) : Prop := e = .returned v ∧ Below w.heap.size w w'
set_option maxHeartbeats 1000000 in
theorem place1_c (b3 : Nat) (AL : Option Addr) (cL : Nat) (l : List Int) (A : Option Addr) (c : Nat) (arcs : List Arc) (w : World)
    (h3 : w.cell? ⟨b3, 0, none⟩ = some (.slice AL l.length cL)) (z3 : b3 < w.heap.size) (hL : IntsAt w AL l) (ll : l.length ≤ 10) (hr : ∀ x, x ∈ l → 0 ≤ x ∧ x ≤ 65536) (hA : ArcsAt w A arcs) (ho : arcsOk arcs l.length) :
    Calls Try.prog 52 #[.slice A arcs.length c, .pointer (some ⟨b3, 0, none⟩)] w (Gives1 (.int .i64 (sumV l arcs)) w) := by
  have HL := Lib.hid hL
  have HA := Lib.hid hA
  have HR := Lib.hid hr
  have HO := Lib.hid ho
  have la := ho.len
  have C3 : Hid (∀ V, Below w.heap.size w V → V.cell? ⟨b3, 0, none⟩ = some (.slice AL l.length cL)) := fun V hb => old_cell hb h3 z3
  clear hL hA hr ho h3
  go_enter Try.func52, Try.ntmps52
  go_wp2_with fail
  go_loopw [4, 9] (fun s i wr => ∃ (k : Nat) (x : Int), k ≤ arcs.length ∧ i = .int .i64 k ∧ s = .int .i64 x ∧ Hid (x = sumV l (arcs.take k)) ∧ 0 ≤ x ∧ x ≤ 524288 * (k : Int) ∧ Hid (Fro w.heap.size w wr)) (fun _ i _ => arcs.length - (intOf i).toNat)
  case atStart => exact ⟨0, 0, by omega, rfl, rfl, rfl, by omega, by omega, Fro.here w⟩
  case round =>
    obtain ⟨k, x, hk, rfl, rfl, HX, hx0, hx1, BW⟩ := hrel
    by_cases hlt : k < arcs.length
    · obtain ⟨y, hy⟩ : ∃ y, arcs[k]? = some y := ⟨_, List.getElem?_eq_getElem hlt⟩
      obtain ⟨b, off, hA, hb, e0, e1⟩ := ArcsAt.get (HA.out.below (PlR.ok _).stays BW.out.b) hy
      subst hA
      obtain ⟨p0, p1, _, w0, w1⟩ := HO.out k hlt y hy
      obtain ⟨pl, wt⟩ := y
      dsimp only at p0 p1 w0 w1 e0 e1
      obtain ⟨p, rfl⟩ := Int.eq_ofNat_of_zero_le p0
      obtain ⟨z, hz⟩ : ∃ z, l[p]? = some z := ⟨_, List.getElem?_eq_getElem (by omega)⟩
      obtain ⟨bL, oL, hAL, hbL, eL⟩ := IntsAt.get (HL.out.below IntE.stays BW.out.b) hz
      subst hAL
      obtain ⟨m0, m1⟩ := HR.out z (List.mem_of_getElem? hz)
      obtain ⟨u0, u1⟩ := mul_bound m0 m1 w0 w1
      have HT : Hid (sumV l (arcs.take (k + 1)) = x + z * wt) := by
        rw [Hid, List.take_add_one, hy]
        show sumV l (arcs.take k ++ [_]) = _
        rw [sumV_snoc, ← HX.out]
        simp [hz]
      have c3 := C3.out wr BW.out.b
      have z3' : b3 < wr.heap.size := Nat.lt_of_lt_of_le z3 BW.out.z
      have BN : Hid (Fro w.heap.size w (wr.alloc (.cells #[.int .i64 p, .int .i64 wt] 121))) := BW.out.alloc _
      have lq : (p : Int) < l.length := by omega
      have i1 : IntKind.i64.wrap (z * wt) = z * wt := IntWalk.i64_in _ (by omega)
      have i2 : IntKind.i64.wrap (x + z * wt) = x + z * wt := IntWalk.i64_in _ (by omega)
      clear hy hz
      go_wp2_with fail
      go_quiet (fail)
      go_wp2
      go_roundw
      case rel => exact ⟨k + 1, x + z * wt, by omega, by go_num, rfl, HT.out.symm, by omega, by omega, BN.out.draws _⟩
      case measure => simp [intOf]; omega
    · obtain rfl : k = arcs.length := by omega
      go_wp2
      go_ret
      exact ⟨ret_int (by rw [HX.out, List.take_length]), BW.out.b⟩

set_option maxHeartbeats 2000000 in
theorem place2_c (b5 b3 : Nat) (AL : Option Addr) (cL : Nat) (l : List Int) (x : Tr) (A1 A2 : Option Addr) (c1 c2 : Nat) (w : World)
    (h5 : w.cell? ⟨b5, 0, none⟩ = some (.func (.func 52) #[] #[.pointer (some ⟨b3, 0, none⟩)])) (z5 : b5 < w.heap.size)
    (h3 : w.cell? ⟨b3, 0, none⟩ = some (.slice AL l.length cL)) (z3 : b3 < w.heap.size) (hL : IntsAt w AL l) (ll : l.length ≤ 10) (hr : ∀ x, x ∈ l → 0 ≤ x ∧ x ≤ 65536) (hx : TrIs w x A1 A2) (o1 : arcsOk x.ins l.length) (o2 : arcsOk x.outs l.length) :
    Calls Try.prog 54 #[.agg #[.int .i64 x.ev, .slice A1 x.ins.length c1, .slice A2 x.outs.length c2], .pointer (some ⟨b5, 0, none⟩)] w (Tells (sumV l x.ins ≠ sumV l x.outs) w) := by
  obtain ⟨ev, ins, outs⟩ := x
  dsimp only at *
  have BN : Hid (Fro w.heap.size w (w.alloc (.cells #[.int .i64 ev, .slice A1 ins.length c1, .slice A2 outs.length c2] 63))) := (Fro.here w).alloc _
  have CN : Hid (HasAt w.heap.size [.int .i64 ev, .slice A1 ins.length c1, .slice A2 outs.length c2] (w.alloc (.cells #[.int .i64 ev, .slice A1 ins.length c1, .slice A2 outs.length c2] 63))) := HasAt.new w _ _ rfl
  have S1 : Hid (∀ V (A : Option Addr) (c : Nat) (arcs : List Arc), Below w.heap.size w V → ArcsAt w A arcs → arcsOk arcs l.length → Calls Try.prog 52 #[.slice A arcs.length c, .pointer (some ⟨b3, 0, none⟩)] V (Gives1 (.int .i64 (sumV l arcs)) V)) := fun V A c arcs hb hA ho =>
    place1_c b3 AL cL l A c arcs V (old_cell hb h3 z3) (Nat.lt_of_lt_of_le z3 hb.size) (hL.below IntE.stays hb) ll hr (hA.below (PlR.ok _).stays hb) ho
  have SI := Lib.hid (fun V (hb : Below w.heap.size w V) => S1.out V A1 c1 ins hb hx.1 o1)
  have SO := Lib.hid (fun V (hb : Below w.heap.size w V) => S1.out V A2 c2 outs hb hx.2.1 o2)
  have C5 : Hid (∀ V, Below w.heap.size w V → V.cell? ⟨b5, 0, none⟩ = some (.func (.func 52) #[] #[.pointer (some ⟨b3, 0, none⟩)])) := fun V hb => old_cell hb h5 z5
  have eg1 := enters_of Try.func52 (by kernel_rfl) rfl
  clear S1 h5 h3 hL hr hx o1 o2
  generalize hs1 : sumV l ins = s1 at *
  generalize hs2 : sumV l outs = s2 at *
  have HS1 := Lib.hid hs1
  have HS2 := Lib.hid hs2
  clear hs1 hs2
  go_enter Try.func54, Try.ntmps54
  go_wp2_with fail
  generalize hW : w.alloc (.cells #[.int .i64 ev, .slice A1 ins.length c1, .slice A2 outs.length c2] 63) = W at *
  clear hW
  have SC : Hid (∀ V, Fro W.heap.size W V → V.cell? ⟨b5, 0, none⟩ = some (.func (.func 52) #[] #[.pointer (some ⟨b3, 0, none⟩)]) ∧ V.cell? ⟨w.heap.size, 1, none⟩ = some (.slice A1 ins.length c1) ∧ V.cell? ⟨w.heap.size, 2, none⟩ = some (.slice A2 outs.length c2)) := fun V hb =>
    ⟨C5.out V (BN.out.next hb.b).b, (CN.out.below hb.b).c 1 _ rfl, (CN.out.below hb.b).c 2 _ rfl⟩
  have sc := SC.out W (Fro.here W)
  have T0 := Lib.hid (Fro.here W).drew
  have CI : Hid (∀ V, Fro W.heap.size W V → Calls Try.prog 52 #[.slice A1 ins.length c1, .pointer (some ⟨b3, 0, none⟩)] V (Gives1 (.int .i64 s1) V)) := fun V hb => SI.out V (BN.out.next hb.b).b
  have CO : Hid (∀ V, Fro W.heap.size W V → Calls Try.prog 52 #[.slice A2 outs.length c2, .pointer (some ⟨b3, 0, none⟩)] V (Gives1 (.int .i64 s2) V)) := fun V hb => SO.out V (BN.out.next hb.b).b
  clear SI SO C5
  go_region_held3 (fun V => V.cell? ⟨b5, 0, none⟩ = some (.func (.func 52) #[] #[.pointer (some ⟨b3, 0, none⟩)]) ∧ V.cell? ⟨w.heap.size, 1, none⟩ = some (.slice A1 ins.length c1) ∧ V.cell? ⟨w.heap.size, 2, none⟩ = some (.slice A2 outs.length c2))
    (first | exact SC.out _ T2.out | exact SC.out _ T1.out | exact SC.out _ T0.out | exact SC.out _ (Fro.here W) | go_keep) (
    first | (go_at_call 52; ((with_reducible refine (CI.out _ T1.out).mono ?_); rintro e w5 ⟨rfl, hb⟩; have T2 := Lib.hid (T1.out.next hb); clear hb))
          | (go_at_call 52; ((with_reducible refine (CO.out _ T1.out).mono ?_); rintro e w5 ⟨rfl, hb⟩; have T2 := Lib.hid (T1.out.next hb); clear hb))
          | (go_at_call 52; ((with_reducible refine (CI.out _ T0.out).mono ?_); rintro e w5 ⟨rfl, hb⟩; have T1 := Lib.hid (T0.out.next hb); clear hb))
          | (go_at_call 52; ((with_reducible refine (CO.out _ T0.out).mono ?_); rintro e w5 ⟨rfl, hb⟩; have T1 := Lib.hid (T0.out.next hb); clear hb)))
  all_goals
    go_wp2
    go_ret
    exact ⟨_, rfl, by simp, (BN.out.next T2.out.b).b⟩

structure PlaceOk (init : List Int) (trs : List Tr) (l : List Int) : Prop where
  n : NetOk init trs
  w : WtOk l init.length
  s : ∀ t, t ∈ trs → sumV l t.ins = sumV l t.outs
set_option maxHeartbeats 2000000 in
theorem PlaceFlow_c (init : List Int) (trs : List Tr) (A1 A2 : Option Addr) (c1 c2 : Nat) (AL : Option Addr) (cL : Nat) (l : List Int) (w : World) (h : NetAt w init trs A1 A2) (hL : IntsAt w AL l) (ll : l.length ≤ 140737488355328) :
    Calls Try.prog 19 #[.agg #[.slice A1 init.length c1, .slice A2 trs.length c2], .slice AL l.length cL] w (Tells (PlaceOk init trs l) w) := by
  have HX := Lib.hid h
  have HL := Lib.hid hL
  have l1 := h.l1
  have l2 := h.l2
  have W0 : Hid (Fro w.heap.size w ((w.alloc (.cells #[.slice A1 init.length c1, .slice A2 trs.length c2] 57)).alloc (.cells #[.slice AL l.length cL] 36))) := ((Fro.here w).alloc _).alloc _
  have C1 : Hid (HasAt w.heap.size [.slice A1 init.length c1, .slice A2 trs.length c2] ((w.alloc (.cells #[.slice A1 init.length c1, .slice A2 trs.length c2] 57)).alloc (.cells #[.slice AL l.length cL] 36))) := (HasAt.new w _ _ rfl).alloc _
  have C2 : Hid (HasAt (w.heap.size + 1) [.slice AL l.length cL] ((w.alloc (.cells #[.slice A1 init.length c1, .slice A2 trs.length c2] 57)).alloc (.cells #[.slice AL l.length cL] 36))) := HasAt.new _ _ _ (by simp)
  clear h hL
  go_enter Try.func19, Try.ntmps19
  go_wp2_with fail
  generalize hW : ((w.alloc (.cells #[.slice A1 init.length c1, .slice A2 trs.length c2] 57)).alloc (.cells #[.slice AL l.length cL] 36)) = W at *
  clear hW
  refine (net_c init trs A1 A2 c1 c2 W (HX.out.below W0.out.b)).mono ?_
  intro e w1 hs
  rcases hs.no1 with ⟨rfl, S, hb⟩ | ⟨rfl, S, hb⟩
  · have R1 := Lib.hid (W0.out.next hb)
    clear hs hb
    go_wp2
    go_ret
    exact Tells.no (fun h => S.out h.n) R1.out.b
  have R1 := Lib.hid (W0.out.next hb)
  have D1 := Lib.hid (C1.out.below hb)
  have E1 := Lib.hid (C2.out.below hb)
  clear hs hb W0 C1 C2
  have q0 := D1.out.c 0 _ rfl
  have r0 := E1.out.c 0 _ rfl
  go_wp2_with fail
  refine (weights_c AL cL l init.length w1 (HL.out.below IntE.stays R1.out.b) ll).mono ?_
  intro e w2 hs
  rcases hs.no1 with ⟨rfl, S2, hb⟩ | ⟨rfl, S2, hb⟩
  · have R2 := Lib.hid (R1.out.next hb)
    clear hs hb
    go_wp2
    go_ret
    exact Tells.no (fun h => S2.out h.w) R2.out.b
  have R2 := Lib.hid (R1.out.next hb)
  have D2 := Lib.hid (D1.out.below hb)
  have E2 := Lib.hid (E1.out.below hb)
  clear hs hb q0 r0 D1 E1 R1
  have q1 := D2.out.c 1 _ rfl
  have hz0 := D2.out.z
  have R3 : Hid (Fro w.heap.size w (w2.alloc (.cells #[.func (.func 52) #[] #[.pointer (some ⟨w.heap.size + 1, 0, none⟩)]] 123))) := R2.out.alloc _
  have E3 : Hid (HasAt (w.heap.size + 1) [.slice AL l.length cL] (w2.alloc (.cells #[.func (.func 52) #[] #[.pointer (some ⟨w.heap.size + 1, 0, none⟩)]] 123))) := E2.out.alloc _
  have F3 : Hid (HasAt w2.heap.size [.func (.func 52) #[] #[.pointer (some ⟨w.heap.size + 1, 0, none⟩)]] (w2.alloc (.cells #[.func (.func 52) #[] #[.pointer (some ⟨w.heap.size + 1, 0, none⟩)]] 123))) := HasAt.new w2 _ _ rfl
  have WL : l.length ≤ 10 := by have := S2.out.len; have := S.out.l1; omega
  go_wp2_with fail
  generalize hW : (w2.alloc (.cells #[.func (.func 52) #[] #[.pointer (some ⟨w.heap.size + 1, 0, none⟩)]] 123)) = W3 at *
  clear hW D2 E2 q1 hz0
  have PR : Hid (PredOnT Try.prog 54 #[.pointer (some ⟨w2.heap.size, 0, none⟩)] (fun t => sumV l t.ins ≠ sumV l t.outs) trs W3) := fun V x A A' c c' hx hb hi =>
    place2_c w2.heap.size (w.heap.size + 1) AL cL l x A A' c c' V ((F3.out.below hb).c 0 _ rfl) (F3.out.below hb).z ((E3.out.below hb).c 0 _ rfl) (E3.out.below hb).z (HL.out.below IntE.stays (R3.out.next hb).b) WL S2.out.r hi
      (by rw [S2.out.len]; exact (S.out.t x hx).2.2.1) (by rw [S2.out.len]; exact (S.out.t x hx).2.2.2)
  refine (containsT_c 54 _ (enters_of Try.func54 (by kernel_rfl) rfl) _ A2 c2 trs W3 (HX.out.below R3.out.b).t l2 PR.out).mono ?_
  rintro e w4 ⟨r, rfl, hr, hb⟩
  have R4 := Lib.hid (R3.out.next hb)
  have HR := Lib.hid hr
  clear hr hb
  cases r
  · go_wp2
    go_ret
    exact Tells.yes ⟨S.out, S2.out, fun t ht => by
      by_cases h : sumV l t.ins = sumV l t.outs
      · exact h
      · exact absurd (HR.out.2 ⟨t, ht, h⟩) (by simp)⟩ R4.out.b
  · go_wp2
    go_ret
    exact Tells.no (fun h => by
      obtain ⟨t, ht, hn⟩ := HR.out.1 (by simp)
      exact hn (h.s t ht)) R4.out.b
end Go.Proofs.Ytkbmenpggiojeaa
