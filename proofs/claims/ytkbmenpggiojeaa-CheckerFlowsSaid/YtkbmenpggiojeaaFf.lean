/-
  The net of a shape.
-/
import Derived.Test.YtkbmenpggiojeaaFe
import Derived.Test.YtkbmenpggiojeaaFc
import Derived.Test.YtkbmenpggiojeaaMl
import Derived.IntWalk
namespace Go.Proofs.Ytkbmenpggiojeaa
open Go.RowKit
set_option linter.unusedSimpArgs false
set_option linter.unusedVariables false
set_option maxRecDepth 100000

/-- So many bytes. -/
structure U8s (cs : List Value) (n : Nat) : Prop where
  l : cs.length = n
  g : ∀ i, i < n → ∃ x : Int, cs[i]? = some (.int .u8 x) ∧ 0 ≤ x ∧ x < 256
structure ShapeNet (init : List Int) (trs : List Tr) : Prop where
  n0 : 1 ≤ init.length
  n1 : init.length ≤ 5
  t1 : trs.length ≤ 5
  ok : NetOk init trs
theorem trInfo : (Try.prog.info? 63).map (fun i => (i.zero, i.size, i.bytes)) = some (some (.agg #[.int .i64 0, .slice none 0 0, .slice none 0 0]), 3, 56) := by kernel_rfl
theorem arcInfo : (Try.prog.info? 121).map (fun i => (i.zero, i.size, i.bytes)) = some (some (.agg #[.int .i64 0, .int .i64 0]), 2, 16) := by kernel_rfl

theorem BlkAt.pushed {α : Type} {enc : α → List Value} {k T B g T' : Nat} {l : List α} {v : Value} {w w' : World} {cs : List Value} (h : BlkAt w g T' cs) (ho : Own enc k T B l v w) (hg : w.grownBy w' v.ownBlock) (hlt : g < B) : BlkAt w' g T' cs :=
  h.grown hg (fun e => by have := (ho.lt _ e.symm).1; omega)
theorem arcsOk.mono {l : List Arc} {n m : Int} (h : arcsOk l n) (hm : n ≤ m) : arcsOk l m := fun i hi x hx => by
  have := h i hi x hx
  exact ⟨this.1, by omega, this.2.2⟩
theorem arcsOk.push {l : List Arc} {p : Nat} {t : Int} (h : arcsOk l p) (h1 : 1 ≤ t) (h2 : t ≤ 8) : arcsOk (l ++ [⟨p, t⟩]) ((p + 1 : Nat) : Int) := fun i hi x hx => by
  by_cases e : i < l.length
  · rw [List.getElem?_append_left e] at hx
    have := h i e x hx
    refine ⟨this.1, by omega, fun y h0 hy => ?_, this.2.2.2⟩
    rw [List.getElem?_append_left (by omega)] at hy
    exact this.2.2.1 y h0 hy
  · have e2 : i = l.length := by simp at hi; omega
    subst e2
    simp at hx; subst hx
    refine ⟨by simp only; omega, by simp only; omega, fun y h0 hy => ?_, h1, h2⟩
    rw [List.getElem?_append_left (by omega)] at hy
    have := (h _ (by omega) y hy).2.1
    simp only; omega
def tabI : List Value := [.int .i64 0, .int .i64 0, .int .i64 1, .int .i64 0, .int .i64 1, .int .i64 2]
def tabO : List Value := [.int .i64 0, .int .i64 1, .int .i64 0, .int .i64 0, .int .i64 1, .int .i64 2]
theorem tab_get {T : List Value} (hT : T = tabI ∨ T = tabO) {r : Nat} (hr : r < 6) : ∃ t : Int, T[r]? = some (.int .i64 t) ∧ 0 ≤ t ∧ t ≤ 2 := by
  rcases hT with rfl | rfl
  all_goals
    match r, hr with
    | 0, _ => exact ⟨_, rfl, by decide, by decide⟩
    | 1, _ => exact ⟨_, rfl, by decide, by decide⟩
    | 2, _ => exact ⟨_, rfl, by decide, by decide⟩
    | 3, _ => exact ⟨_, rfl, by decide, by decide⟩
    | 4, _ => exact ⟨_, rfl, by decide, by decide⟩
    | 5, _ => exact ⟨_, rfl, by decide, by decide⟩
theorem cell_a (W : World) (cs : List Value) (T : TypeId) (r : Nat) {u : Value} (h : cs[r]? = some u) : (W.alloc (.cells cs.toArray T)).cell? ⟨W.heap.size, r, none⟩ = some u := (new_cell W T cs _ r rfl).trans h
theorem cell_b (W : World) (cs : List Value) (T : TypeId) (o : Obj) (r : Nat) {u : Value} (h : cs[r]? = some u) : ((W.alloc (.cells cs.toArray T)).alloc o).cell? ⟨W.heap.size, r, none⟩ = some u := (alloc_cell _ o _ r (by simp)).trans (cell_a W cs T r h)
theorem cell_c (W : World) (cs : List Value) (T : TypeId) (o : Obj) (r : Nat) {u : Value} (h : cs[r]? = some u) : ((W.alloc o).alloc (.cells cs.toArray T)).cell? ⟨W.heap.size + 1, r, none⟩ = some u := (new_cell (W.alloc o) T cs _ r (by simp)).trans h
/-- A transition that is being made, in block bx; new memory from there on. -/
structure TrSt (bx : Nat) (ev : Int) (ins outs : List Arc) (vi vo : Value) (p q : Nat) (w0 w : World) : Prop where
  f : Fro bx w0 w
  b : BlkAt w bx 63 [.int .i64 ev, vi, vo]
  oi : OwnR ArcR 2 121 (bx + 1) (Beside NoBlk vo) ins vi w
  oo : OwnR ArcR 2 121 (bx + 1) (Beside NoBlk vi) outs vo w
  ai : arcsOk ins p
  ao : arcsOk outs q
section
variable {bx : Nat} {ev : Int} {ins outs : List Arc} {vi vo : Value} {p q : Nat} {w0 w w1 : World}
theorem TrSt.later (h : TrSt bx ev ins outs vi vo p q w0 w) (hb : Below w.heap.size w w1) : TrSt bx ev ins outs vi vo p q w0 w1 :=
  ⟨h.f.next hb, h.b.below hb h.b.lt, h.oi.below (PlR.ok _) hb, h.oo.below (PlR.ok _) hb, h.ai, h.ao⟩
theorem TrSt.upI (h : TrSt bx ev ins outs vi vo p q w0 w) : TrSt bx ev ins outs vi vo (p + 1) q w0 w := ⟨h.f, h.b, h.oi, h.oo, h.ai.mono (by omega), h.ao⟩
theorem TrSt.upO (h : TrSt bx ev ins outs vi vo p q w0 w) : TrSt bx ev ins outs vi vo p (q + 1) w0 w := ⟨h.f, h.b, h.oi, h.oo, h.ai, h.ao.mono (by omega)⟩
theorem TrSt.cellsI (h : TrSt bx ev ins outs vi vo p q w0 w) (hg : w.grownBy w1 vi.ownBlock) : BlkAt w1 bx 63 [.int .i64 ev, vi, vo] := h.b.grown hg fun e => by have := (h.oi.lt _ e.symm).1; omega
theorem TrSt.cellsO (h : TrSt bx ev ins outs vi vo p q w0 w) (hg : w.grownBy w1 vo.ownBlock) : BlkAt w1 bx 63 [.int .i64 ev, vi, vo] := h.b.grown hg fun e => by have := (h.oo.lt _ e.symm).1; omega
theorem TrSt.pushI (h : TrSt bx ev ins outs vi vo p q w0 w) {t : Int} {vi' : Value} (ho : OwnR ArcR 2 121 (bx + 1) (Beside NoBlk vo) (ins ++ [⟨p, t⟩]) vi' w1) (hg : w.grownBy w1 vi.ownBlock) (hat : vi'.ownBlock = vi.ownBlock ∨ vi'.ownBlock = some w.heap.size) (h1 : 1 ≤ t) (h2 : t ≤ 8) :
    TrSt bx ev (ins ++ [⟨p, t⟩]) outs vi' vo (p + 1) q w0 (w1.setCell ⟨bx, 1, none⟩ vi') :=
  ⟨(h.f.grown hg fun j hj => by have := (h.oi.lt j hj).1; omega).setCell (Nat.le_refl _) _, (h.cellsI hg).set_ 1 _, ho.setCell (PlR.ok _) (.inl (Nat.lt_succ_self _)), (h.oo.beside (PlR.ok _) hg hat).setCell (PlR.ok _) (.inl (Nat.lt_succ_self _)), h.ai.push h1 h2, h.ao⟩
theorem TrSt.pushO (h : TrSt bx ev ins outs vi vo p q w0 w) {t : Int} {vo' : Value} (ho : OwnR ArcR 2 121 (bx + 1) (Beside NoBlk vi) (outs ++ [⟨q, t⟩]) vo' w1) (hg : w.grownBy w1 vo.ownBlock) (hat : vo'.ownBlock = vo.ownBlock ∨ vo'.ownBlock = some w.heap.size) (h1 : 1 ≤ t) (h2 : t ≤ 8) :
    TrSt bx ev ins (outs ++ [⟨q, t⟩]) vi vo' p (q + 1) w0 (w1.setCell ⟨bx, 2, none⟩ vo') :=
  ⟨(h.f.grown hg fun j hj => by have := (h.oo.lt j hj).1; omega).setCell (Nat.le_refl _) _, (h.cellsO hg).set_ 2 _, (h.oi.beside (PlR.ok _) hg hat).setCell (PlR.ok _) (.inl (Nat.lt_succ_self _)), ho.setCell (PlR.ok _) (.inl (Nat.lt_succ_self _)), h.ai, h.ao.push h1 h2⟩
end
theorem arcOne (x : Arc) : ∀ u ∈ Arc.cells x, u.oneCell' = true := fun u hu => by simp [Arc.cells] at hu; rcases hu with rfl | rfl <;> rfl
def GivesNet (w : World) (e : Ending) (w' : World) : Prop := ∃ (init : List Int) (trs : List Tr) (A1 A2 : Option Addr) (c1 c2 : Nat), e = .returned (.agg #[.slice A1 init.length c1, .slice A2 trs.length c2]) ∧ ShapeNet init trs ∧ NetAt w' init trs A1 A2 ∧ Below w.heap.size w w'

set_option maxHeartbeats 8000000 in
theorem make47_c (cs : List Value) (w : World) (hc : U8s cs 37) :
    Calls Try.prog 16 #[.agg cs.toArray] w (GivesNet w) := by
  have HC := Lib.hid hc
  have W0 : Hid (Fro w.heap.size w (((w.alloc (.cells cs.toArray 54)).alloc (.cells #[.slice none 0 0, .slice none 0 0] 57)).alloc (.cells #[.slice none 0 0, .slice none 0 0] 57))) := (((Fro.here w).alloc _).alloc _).alloc _
  have S0 : Hid (HasAt w.heap.size cs (((w.alloc (.cells cs.toArray 54)).alloc (.cells #[.slice none 0 0, .slice none 0 0] 57)).alloc (.cells #[.slice none 0 0, .slice none 0 0] 57))) := ((HasAt.new w _ _ rfl).alloc _).alloc _
  have O0 : Hid (BlkAt (((w.alloc (.cells cs.toArray 54)).alloc (.cells #[.slice none 0 0, .slice none 0 0] 57)).alloc (.cells #[.slice none 0 0, .slice none 0 0] 57)) (w.heap.size + 1) 57 [.slice none 0 0, .slice none 0 0]) := by
    have := (BlkAt.new (w.alloc (.cells cs.toArray 54)) 57 [.slice none 0 0, .slice none 0 0]).alloc (.cells #[.slice none 0 0, .slice none 0 0] 57)
    simpa [Hid] using this
  have N0 : Hid (BlkAt (((w.alloc (.cells cs.toArray 54)).alloc (.cells #[.slice none 0 0, .slice none 0 0] 57)).alloc (.cells #[.slice none 0 0, .slice none 0 0] 57)) (w.heap.size + 1 + 1) 57 [.slice none 0 0, .slice none 0 0]) := by
    have := BlkAt.new ((w.alloc (.cells cs.toArray 54)).alloc (.cells #[.slice none 0 0, .slice none 0 0] 57)) 57 [.slice none 0 0, .slice none 0 0]
    simpa [Hid] using this
  clear hc
  go_enter Try.func16, Try.ntmps16
  go_wp2_with fail
  generalize hW : (((w.alloc (.cells cs.toArray 54)).alloc (.cells #[.slice none 0 0, .slice none 0 0] 57)).alloc (.cells #[.slice none 0 0, .slice none 0 0] 57)) = W at *
  clear hW
  obtain ⟨bn, hbn, hbn1⟩ : ∃ bn, w.heap.size + 1 + 1 = bn ∧ w.heap.size + 1 < bn := ⟨_, rfl, by omega⟩
  rw [hbn] at N0
  rw [hbn]
  clear hbn
  obtain ⟨x0, hx0, hx1, hx2⟩ := HC.out.g 0 (by omega)
  have HX0 := Lib.hid hx0
  clear hx0
  obtain ⟨N, hN, hN1, hN5⟩ : ∃ N : Nat, 1 + x0 % 5 = (N : Int) ∧ 1 ≤ N ∧ N ≤ 5 := ⟨(1 + x0 % 5).toNat, by omega, by omega, by omega⟩
  have HN := Lib.hid hN
  clear hN
  go_loopw [4] (fun i wr => ∃ (k : Nat) (init : List Int) (vI : Value), k ≤ N ∧ i = .int .i64 k ∧ Hid (Fro w.heap.size w wr) ∧ Hid (HasAt w.heap.size cs wr) ∧ Hid (BlkAt wr (w.heap.size + 1) 57 [.slice none 0 0, .slice none 0 0]) ∧ Hid (BlkAt wr bn 57 [vI, .slice none 0 0]) ∧ Hid (OwnI (bn + 1) init vI wr) ∧ Hid (init.length = k) ∧ Hid (∀ x, x ∈ init → 0 ≤ x ∧ x ≤ 3)) (fun i _ => N - (intOf i).toNat)
  case atStart => exact ⟨0, [], _, by omega, rfl, W0.out, S0.out, O0.out, N0.out, Own.nil _, rfl, by simp [Hid]⟩
  case round =>
    obtain ⟨k, init, vI, hk, rfl, R1, S1, O1, N1, VI, HL, HR⟩ := hrel
    clear W0 S0 O0 N0
    have q0 := S1.out.c 0 _ HX0.out
    have hz0 := S1.out.z
    by_cases hlt : k < N
    · have hlt' : decide ((k : Int) < 1 + x0 % 5) = true := by have := HN.out; simp; omega
      obtain ⟨y, hy, hy0, hy1⟩ := HC.out.g (2 + k) (by omega)
      have qy := S1.out.c (2 + k) _ hy
      have n0 := N1.out.at1 0 _ rfl
      have f0 := N1.out.free 0
      have hzn := N1.out.lt
      clear hy
      have e1 : y.tmod 4 = y % 4 := Int.tmod_eq_emod_of_nonneg hy0
      have e2 : IntKind.i64.wrap (y % 4) = y % 4 := IntWalk.i64_in _ (by omega)
      have hk5 : (k : Int) < 5 := by omega
      go_wp2_with fail
      go_region_law (
        (refine step_append_at rfl (.tmp 20) (.tmp 27) 36 rfl (bn + 1) 3 _ 1 8 Try.underlying36 intInfo rfl (by decide) vI _ _ rfl ((VI.out.alloc (.cells #[.int .i64 (y % 4)] 3)).drew) ⟨wr.heap.size, 0, none⟩ 1 1 (encI (y % 4)) rfl rfl ?_ ?_ ?_ ?_ ?_ ?_
         (exact new_cells (by simp))
         (exact encI_one _)
         (have := HL.out; simp only [maxLen]; omega)
         (have := HL.out; omega)
         (simp; omega)
         intro A' c' w7 ho hg hb'
         have HO7 := Lib.hid (Own.pushed ho)
         have HG7 := Lib.hid hg
         have NB : Hid (BlkAt w7 bn 57 [vI, .slice none 0 0]) := BlkAt.pushed ((N1.out.alloc _).draws 1) ((VI.out.alloc (.cells #[.int .i64 (y % 4)] 3)).drew) HG7.out (Nat.lt_succ_self _)
         have BC : Hid (Fro bn wr w7) := ((Fro.refl (Nat.le_of_lt hzn)).alloc _).drew.grown HG7.out (fun j hj => by have := (VI.out.lt j hj).1; omega)
         have q7 := NB.out.at1 0 _ rfl
         have q7f := NB.out.free 0
         clear ho hg hb'))
      all_goals
        have BD : Hid (Fro bn wr (w7.setCell ⟨bn, 0, none⟩ (.slice A' (init.length + 1) c'))) := BC.out.setCell (Nat.le_refl _) _
        go_wp2
        go_roundw
        case rel => exact ⟨k + 1, init ++ [y % 4], _, by omega, by go_num, R1.out.trans (BD.out.mono (by omega)), S1.out.fro BD.out (by omega), O1.out.below BD.out.b (by omega), NB.out.set_ 0 _, ownsRow_setCell_below HO7.out (Nat.lt_succ_self _) _, by rw [Hid, List.length_append, HL.out]; rfl, fun x hx => by
          rcases List.mem_append.1 hx with hx | hx
          · exact HR.out x hx
          · simp at hx; subst hx; omega⟩
        case measure => simp [intOf]; omega
    · obtain rfl : k = N := by omega
      have hlt' : decide ((k : Int) < 1 + x0 % 5) = false := by have := HN.out; simp; omega
      obtain ⟨y0, hy0, hy1, hy2⟩ := HC.out.g 1 (by omega)
      have HY0 := Lib.hid hy0
      clear hy0
      obtain ⟨AI, cI, rfl⟩ := VI.out.form
      go_wp2_with fail
      clear q0 hz0 hlt hlt' HN
      go_loopw [5] (fun i wx => ∃ (t : Nat) (trs : List Tr) (vT : Value), t ≤ 5 ∧ i = .int .i64 t ∧ Hid (Fro w.heap.size w wx) ∧ Hid (HasAt w.heap.size cs wx) ∧ Hid (BlkAt wx (w.heap.size + 1) 57 [.slice none 0 0, .slice none 0 0]) ∧ Hid (BlkAt wx bn 57 [.slice AI init.length cI, vT]) ∧ Hid (OwnI (bn + 1) init (.slice AI init.length cI) wx) ∧ Hid (OwnR TrR 3 63 (bn + 1) (Beside NoBlk (.slice AI init.length cI)) trs vT wx) ∧ Hid (trs.length = t) ∧ Hid (∀ x, x ∈ trs → 0 ≤ x.ev ∧ x.ev < 32 ∧ arcsOk x.ins k ∧ arcsOk x.outs k)) (fun i _ => 5 - (intOf i).toNat)
      case atStart => exact ⟨0, [], _, by omega, rfl, R1.out, S1.out, O1.out, N1.out, VI.out, OwnR.nil _, rfl, by simp [Hid]⟩
      case round =>
        obtain ⟨t, trs, vT, ht, rfl, R2, S2, O2, N2, VI2, VT, HTL, HTR⟩ := hrel
        clear R1 S1 O1 N1 VI
        have q1 := S2.out.c 1 _ HY0.out
        have hz0 := S2.out.z
        by_cases hlt : (t : Int) < y0 % 6
        · have hlt' : decide ((t : Int) < y0 % 6) = true := by simpa using hlt
          have ht5 : t < 5 := by omega
          have hlt5 : decide ((t : Int) < 5) = true := by simp; omega
          obtain ⟨z, hz, hz1, hz2⟩ := HC.out.g (7 + t) (by omega)
          have qz := S2.out.c (7 + t) _ hz
          have e1 : z.tmod 5 = z % 5 := Int.tmod_eq_emod_of_nonneg hz1
          have ht5' : (t : Int) < 5 := by omega
          clear hz
          have BX : Hid (BlkAt (wr.alloc (.cells #[.int .i64 (z % 5), .slice none 0 0, .slice none 0 0] 63)) wr.heap.size 63 [.int .i64 (z % 5), .slice none 0 0, .slice none 0 0]) := BlkAt.new wr _ _
          have RX : Hid (Fro wr.heap.size wr (wr.alloc (.cells #[.int .i64 (z % 5), .slice none 0 0, .slice none 0 0] 63))) := (Fro.here wr).alloc _
          obtain ⟨wo, rfl⟩ : ∃ wo : World, wo = wr := ⟨_, rfl⟩
          have e2 : IntKind.i64.wrap (z % 5) = z % 5 := IntWalk.i64_in _ (by omega)
          go_wp2_with fail
          clear e1 e2 q1 qz
          go_loopw [7] (fun i wx => ∃ (p : Nat) (ins outs : List Arc) (vi vo : Value), p ≤ init.length ∧ i = .int .i64 p ∧ Hid (TrSt wo.heap.size (z % 5) ins outs vi vo p p wo wx)) (fun i _ => init.length - (intOf i).toNat)
          case atStart => exact ⟨0, [], [], _, _, by omega, rfl, RX.out, BX.out, OwnR.nil _, OwnR.nil _, fun i h => absurd h (by simp), fun i h => absurd h (by simp)⟩
          case round =>
            obtain ⟨p, ins, outs, vi, vo, hp, rfl, H3⟩ := hrel
            clear BX RX
            have N3 : Hid (BlkAt wr bn 57 _) := N2.out.below H3.out.f.b N2.out.lt
            have n0 := N3.out.at1 0 _ rfl
            have hzn := N3.out.lt
            by_cases hpl : p < init.length
            · have S3 := Lib.hid (S2.out.below H3.out.f.b)
              have hpk : p < k := by have := HL.out; omega
              obtain ⟨a, ha, ha1, ha2⟩ := HC.out.g (12 + t * 5 + p) (by omega)
              have qa := S3.out.c (12 + t * 5 + p) _ ha
              have hp5 : (p : Int) < 5 := by omega
              have hz3 := S3.out.z
              clear ha
              go_upto_region 13 with fail
              go_cut [8, 9] (fun s8 s9 wx => ∃ t1 t2 : Int, s8 = .int .i64 t1 ∧ s9 = .int .i64 t2 ∧ 0 ≤ t1 ∧ t1 ≤ 2 ∧ 0 ≤ t2 ∧ t2 ≤ 2 ∧ Hid (TrSt wo.heap.size (z % 5) ins outs vi vo p p wo wx))
              case first =>
                obtain ⟨t1, ht1, t10, t11⟩ := tab_get (.inl rfl) (show (a % 6).toNat < 6 by omega)
                obtain ⟨t2, ht2, t20, t21⟩ := tab_get (.inr rfl) (show (a / 6 % 6).toNat < 6 by omega)
                have u1 := cell_a wr tabI 3 _ ht1
                have u2 := cell_b wr tabI 3 (.cells tabO.toArray 3) _ ht1
                have u3 := cell_c wr tabI 3 (.cells tabO.toArray 3) _ ht1
                have v1 := cell_a wr tabO 3 _ ht2
                have v2 := cell_b wr tabO 3 (.cells tabI.toArray 3) _ ht2
                have v3 := cell_c wr tabO 3 (.cells tabI.toArray 3) _ ht2
                simp only [tabI, tabO] at u1 u2 u3 v1 v2 v3
                clear ht1 ht2
                go_region
                all_goals
                  go_wp2_with fail
                  go_meet
                  exact ⟨t1, t2, rfl, rfl, t10, t11, t20, t21, H3.out.later (((Below.new _ _).alloc (by simp) _).drew)⟩
              case rest =>
                obtain ⟨t1, t2, rfl, rfl, t10, t11, t20, t21, H4⟩ := hcut
                clear H3 N3 S3 qa n0 hzn hz3
                have laI := H4.out.ai.len
                have laO := H4.out.ao.len
                go_upto_if 78 with fail
                go_cut [] (fun wx => ∃ (ins' : List Arc) (vi' : Value), Hid (TrSt wo.heap.size (z % 5) ins' outs vi' vo (p + 1) p wo wx))
                case first =>
                  by_cases h1 : 0 < t1
                  · have h1' : decide (0 < t1) = true := by simpa using h1
                    have b1 := H4.out.b.at1 1 _ rfl
                    have f1 := H4.out.b.free 1
                    have hz := H4.out.b.lt
                    have HA : Hid (TrSt wo.heap.size (z % 5) ins outs vi vo p p wo (wc.alloc (.cells #[.int .i64 p, .int .i64 t1] 121))) := H4.out.later (Below.new _ _)
                    have HXS : Hid (∀ b, Beside NoBlk vo b → b < (wc.alloc (.cells #[.int .i64 p, .int .i64 t1] 121)).heap.size) := Beside.lt fun j hj => (HA.out.oo.lt j hj).2
                    go_wp2_with (at_builtin; refine wpList_pushR (PlR.ok Arc.cells) rfl _ _ 61 rfl HA.out.oi Try.underlying61 _ 16 arcInfo rfl (by decide) rfl (⟨(p : Int), t1⟩ : Arc) (Arc.cells ⟨(p : Int), t1⟩) wc.heap.size rfl rfl rfl (one_cell _ _ _ _ rfl) (arcOne _) (by omega) (by decide) (by simp; omega) HXS.out ?_)
                    intro A' c' w5 ho hg hat
                    have HO := Lib.hid ho
                    have HG := Lib.hid hg
                    have HAT := Lib.hid hat
                    have CB := Lib.hid (HA.out.cellsI hg)
                    have q5 := CB.out.at1 1 _ rfl
                    have q5f := CB.out.free 1
                    clear ho hg hat b1 f1
                    go_wp2_with fail
                    go_meet
                    exact ⟨_, _, HA.out.pushI HO.out HG.out (by rw [World.size_alloc]; exact HAT.out) (by omega) (by omega)⟩
                  · have h1' : decide (0 < t1) = false := by simpa using h1
                    go_wp2_with fail
                    go_meet
                    exact ⟨ins, vi, H4.out.upI⟩
                case rest =>
                  obtain ⟨ins', vi', H5⟩ := hcut
                  clear H4 laI
                  have laO := H5.out.ao.len
                  by_cases h2 : 0 < t2
                  · have h2' : decide (0 < t2) = true := by simpa using h2
                    have b1 := H5.out.b.at1 2 _ rfl
                    have f1 := H5.out.b.free 2
                    have hz := H5.out.b.lt
                    have HA : Hid (TrSt wo.heap.size (z % 5) ins' outs vi' vo (p + 1) p wo (wc.alloc (.cells #[.int .i64 p, .int .i64 t2] 121))) := H5.out.later (Below.new _ _)
                    have HXS : Hid (∀ b, Beside NoBlk vi' b → b < (wc.alloc (.cells #[.int .i64 p, .int .i64 t2] 121)).heap.size) := Beside.lt fun j hj => (HA.out.oi.lt j hj).2
                    go_wp2_with (at_builtin; refine wpList_pushR (PlR.ok Arc.cells) rfl _ _ 61 rfl HA.out.oo Try.underlying61 _ 16 arcInfo rfl (by decide) rfl (⟨(p : Int), t2⟩ : Arc) (Arc.cells ⟨(p : Int), t2⟩) wc.heap.size rfl rfl rfl (one_cell _ _ _ _ rfl) (arcOne _) (by omega) (by decide) (by simp; omega) HXS.out ?_)
                    intro A' c' w5 ho hg hat
                    have HO := Lib.hid ho
                    have HG := Lib.hid hg
                    have HAT := Lib.hid hat
                    have CB := Lib.hid (HA.out.cellsO hg)
                    have q5 := CB.out.at1 2 _ rfl
                    have q5f := CB.out.free 2
                    clear ho hg hat b1 f1
                    go_wp2
                    go_roundw
                    case rel => exact ⟨p + 1, _, _, _, _, by omega, by go_num, HA.out.pushO HO.out HG.out (by rw [World.size_alloc]; exact HAT.out) (by omega) (by omega)⟩
                    case measure => simp [intOf]; omega
                  · have h2' : decide (0 < t2) = false := by simpa using h2
                    go_wp2
                    go_roundw
                    case rel => exact ⟨p + 1, _, _, _, _, by omega, by go_num, H5.out.upO⟩
                    case measure => simp [intOf]; omega
            · obtain rfl : p = init.length := by omega
              have N4 : Hid (BlkAt wr bn 57 _) := N2.out.below H3.out.f.b N2.out.lt
              have n1 := N4.out.at1 1 _ rfl
              have f1 := N4.out.free 1
              have b0 := H3.out.b.at1 0 _ rfl
              have b1 := H3.out.b.at1 1 _ rfl
              have b2 := H3.out.b.at1 2 _ rfl
              have hzb := H3.out.b.lt
              have T4 : Hid (OwnR TrR 3 63 (bn + 1) (Beside NoBlk (.slice AI init.length cI)) trs vT wr) := VT.out.below TrR.ok H3.out.f.b
              have V4 : Hid (OwnI (bn + 1) init (.slice AI init.length cI) wr) := Own.below VI2.out H3.out.f.b (Nat.le_refl _)
              obtain ⟨Ai, ci, rfl⟩ := H3.out.oi.form
              obtain ⟨Ao, co, rfl⟩ := H3.out.oo.form
              have laI := H3.out.ai.len
              have laO := H3.out.ao.len
              have RI := H3.out.oi.rep (PlR.ok _) (by decide) (by have := HL.out; omega)
              have RO := H3.out.oo.rep (PlR.ok _) (by decide) (by have := HL.out; omega)
              have TR : Hid (TrR (fun b => wo.heap.size + 1 ≤ b) wr ⟨z % 5, ins, outs⟩ [.int .i64 (z % 5), .slice Ai ins.length ci, .slice Ao outs.length co]) :=
                ⟨_, _, rfl, ArcsR.ok.mono (fun b hb _ => hb.1) RI, ArcsR.ok.mono (fun b hb _ => hb.1) RO⟩
              clear RI RO
              have hbo : bn < wo.heap.size := N2.out.lt
              have TA : Hid (TrR (fun b => bn + 1 ≤ b ∧ ¬ Beside NoBlk (.slice AI init.length cI) b ∧ some b ≠ vT.ownBlock) (wr.alloc (.cells #[.int .i64 (z % 5), .slice Ai ins.length ci, .slice Ao outs.length co] 63)) ⟨z % 5, ins, outs⟩ [.int .i64 (z % 5), .slice Ai ins.length ci, .slice Ao outs.length co]) :=
                TrR.ok.mono (fun b hb _ => ⟨by omega, fun h => h.elim False.elim fun e => by have := (VI2.out.lt b e.symm).2; omega, fun e => by have := (VT.out.lt b e.symm).2; omega⟩) (TrR.ok.below TR.out (Below.new _ _))
              have TS : Hid (OwnR TrR 3 63 (bn + 1) (Beside NoBlk (.slice AI init.length cI)) trs vT (wr.alloc (.cells #[.int .i64 (z % 5), .slice Ai ins.length ci, .slice Ao outs.length co] 63))) := T4.out.alloc TrR.ok _
              have HXS : Hid (∀ b, Beside NoBlk (.slice AI init.length cI) b → b < (wr.alloc (.cells #[.int .i64 (z % 5), .slice Ai ins.length ci, .slice Ao outs.length co] 63)).heap.size) := Beside.lt fun j hj => Nat.lt_of_lt_of_le (V4.out.lt j hj).2 (by simp)
              have hbr : bn < wr.heap.size := Nat.lt_of_lt_of_le hbo H3.out.f.z
              have HLT : trs.length ≤ 5 := by have := HTL.out; omega
              have oneT : Hid (∀ u ∈ [Value.int .i64 (z % 5), .slice Ai ins.length ci, .slice Ao outs.length co], u.oneCell' = true) := fun u hu => by simp at hu; rcases hu with rfl | rfl | rfl <;> rfl
              go_wp2_with (at_builtin; refine wpList_pushR TrR.ok rfl _ _ 55 rfl TS.out Try.underlying55 _ 56 trInfo rfl (by decide) rfl (⟨z % 5, ins, outs⟩ : Tr) [.int .i64 (z % 5), .slice Ai ins.length ci, .slice Ao outs.length co] wr.heap.size rfl rfl TA.out (one_cell _ _ _ _ rfl) oneT.out (by omega) (by decide) (by simp; omega) HXS.out ?_)
              intro A' c' w5 ho hg hat
              have HO := Lib.hid ho
              have HG : Hid ((wr.alloc (.cells #[.int .i64 (z % 5), .slice Ai ins.length ci, .slice Ao outs.length co] 63)).grownBy w5 vT.ownBlock) := hg
              have NB : Hid (BlkAt w5 bn 57 [.slice AI init.length cI, vT]) := (N4.out.alloc _).grown HG.out (fun e => by have := (VT.out.lt _ e.symm).1; omega)
              have BC : Hid (Fro bn wo w5) := ((H3.out.f.mono (by omega)).alloc _).grown HG.out (fun j hj => by have := (VT.out.lt j hj).1; omega)
              have V5 : Hid (OwnI (bn + 1) init (.slice AI init.length cI) w5) := Own.kept (Own.alloc V4.out _) HG.out (by
                cases h : (Value.slice AI init.length cI).ownBlock with
                | none => exact .inl rfl
                | some g => exact .inr (fun e => TS.out.far g (.inr h.symm) e))
              have q7 := NB.out.at1 1 _ rfl
              have q7f := NB.out.free 1
              clear ho hg hat n1 f1 b0 b1 b2
              have BD : Hid (Fro bn wo (w5.setCell ⟨bn, 1, none⟩ (.slice A' (trs.length + 1) c'))) := BC.out.setCell (Nat.le_refl _) _
              have TN : Hid (OwnR TrR 3 63 (bn + 1) (Beside NoBlk (.slice AI init.length cI)) (trs ++ [⟨z % 5, ins, outs⟩]) (.slice A' (trs.length + 1) c') (w5.setCell ⟨bn, 1, none⟩ (.slice A' (trs.length + 1) c'))) := OwnR.setCell TrR.ok HO.out (.inl (Nat.lt_succ_self bn))
              go_wp2
              go_roundw
              case rel => exact ⟨t + 1, trs ++ [⟨z % 5, ins, outs⟩], _, by omega, by go_num, R2.out.trans (BD.out.mono (by omega)), S2.out.fro BD.out (by omega), O2.out.below BD.out.b (by omega), NB.out.set_ 1 _, ownsRow_setCell_below V5.out (Nat.lt_succ_self _) _, TN, by rw [Hid, List.length_append, HTL.out]; rfl, fun x hx => by
                rcases List.mem_append.1 hx with hx | hx
                · exact HTR.out x hx
                · simp at hx; subst hx
                  have e := HL.out
                  exact ⟨by simp only; omega, by simp only; omega, by rw [← e]; exact H3.out.ai, by rw [← e]; exact H3.out.ao⟩⟩
              case measure => simp [intOf]; omega
        · have hlt' : decide ((t : Int) < y0 % 6) = false := by simpa using hlt
          obtain ⟨AT, cT, rfl⟩ := VT.out.form
          have n0 := N2.out.at1 0 _ rfl
          have n1 := N2.out.at1 1 _ rfl
          have o0 := O2.out.at1 0 _ rfl
          have o1 := O2.out.at1 1 _ rfl
          have of0 := O2.out.free 0
          have of1 := O2.out.free 1
          have HLT := HTL.out
          clear HTL
          have HLT2 := Lib.hid HLT
          clear HLT
          go_wp2
          refine bodyPost_ret (v := .agg #[.slice AI init.length cI, .slice AT trs.length cT]) (by simp [results, Try.results16, go_sem, *]) rfl ?_
          have eN := HL.out
          have eT := HLT2.out
          refine ⟨init, trs, AI, AT, cI, cT, rfl, ⟨by omega, by omega, by omega, ⟨by omega, by omega, fun x hx => by have := HR.out x hx; omega, fun x hx => by
            have := HTR.out x hx
            rw [eN]
            exact this⟩⟩, ⟨?_, ?_, by omega, by omega⟩, ?_⟩
          · exact OwnI.ints (ownsRow_setCell_below (ownsRow_setCell_below VI2.out (by simp only; omega) _) (by simp only; omega) _)
          · exact OwnR.at_ TrR.ok ((VT.out.setCell TrR.ok (.inl (by simp only; omega))).setCell TrR.ok (.inl (by simp only; omega))) (by decide) (by omega)
          · exact ((R2.out.setCell (by omega) _).setCell (by omega) _).b
end Go.Proofs.Ytkbmenpggiojeaa
