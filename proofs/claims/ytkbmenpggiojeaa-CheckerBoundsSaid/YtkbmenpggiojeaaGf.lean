/-
  pairs: the pairs that are reached, with their ranks, and the least bound.
-/
import Derived.Test.YtkbmenpggiojeaaGe
import Derived.Deep.RegionHeld3
import Derived.Deep.LoopGhost
import Derived.Deep.CutBlock
import Derived.Deep.DeepCutAuto
import Derived.Deep.AppendLies
import Derived.Laws.OwnMore
namespace Go.Proofs.Ytkbmenpggiojeaa
open Go.RowKit
set_option linter.unusedSimpArgs false
set_option linter.unusedVariables false
set_option maxRecDepth 100000

abbrev OwnP := Own Pa.cells 3 46
theorem paInfo : (Try.prog.info? 46).map (fun i => (i.zero, i.size, i.bytes)) = some (some (.agg #[.int .i64 0, .int .i64 0, .int .i64 0]), 3, 24) := by kernel_rfl
theorem paOne (x : Pa) : ∀ u ∈ Pa.cells x, u.oneCell' = true := fun u hu => by simp [Pa.cells] at hu; rcases hu with rfl | rfl | rfl <;> rfl
theorem ownP_form {α : Type} {enc : α → List Value} {k T B : Nat} {l : List α} {v : Value} {w : World} (h : Own enc k T B l v w) (hn : 0 < l.length) : ∃ g c, v = .slice (some ⟨g, 0, none⟩) l.length c ∧ B ≤ g ∧ g < w.heap.size := World.ownsRow.form h hn
theorem cells_set : ∀ {l : List Pa} {k : Nat} {f s rk : Int} (r : Int) (hx : l[k]? = some ⟨f, s, rk⟩), (l.flatMap Pa.cells).set (k * 3 + 2) (.int .i64 r) = (l.set k ⟨f, s, r⟩).flatMap Pa.cells
  | [], k, f, s, rk, r, hx => by simp at hx
  | a :: l, 0, f, s, rk, r, hx => by simp at hx; subst hx; rfl
  | a :: l, k + 1, f, s, rk, r, hx => by
    have ih := cells_set (l := l) (k := k) r (by simpa using hx)
    rw [List.flatMap_cons, List.set_cons_succ, List.flatMap_cons, ← ih, List.set_append_right _ _ (by simp [Pa.cells]; omega)]
    congr 2
    simp [Pa.cells]; omega
theorem OwnP.set {B g c : Nat} {l : List Pa} {w : World} (h : OwnP B l (.slice (some ⟨g, 0, none⟩) l.length c) w) {k : Nat} {f s rk : Int} (r : Int) (hx : l[k]? = some ⟨f, s, rk⟩) :
    OwnP B (l.set k ⟨f, s, r⟩) (.slice (some ⟨g, 0, none⟩) (l.set k ⟨f, s, r⟩).length c) (w.setCell ⟨g, k * 3 + 2, none⟩ (.int .i64 r)) := by
  have := (World.ownsRow.stored h (k * 3 + 2) (.int .i64 r)).1
  rw [cells_set r hx] at this
  unfold OwnP Own
  rw [List.length_set]
  exact this
theorem OwnP.pas {B : Nat} {l : List Pa} {A : Option Addr} {c : Nat} {w : World} (h : OwnP B l (.slice A l.length c) w) : PasAt w A l := Own.reads (fun _ => rfl) h

theorem BlkAt.atP {w : World} {g : Nat} {T : TypeId} {cs : List Value} (h : BlkAt w g T cs) (i : Nat) (u : Value) (hi : cs[i]? = some u) : w.cell? ⟨g, i, none⟩ = some u := (h.cell i).trans hi
theorem OwnP.setL {B g c L : Nat} {l : List Pa} {w : World} (h : OwnP B l (.slice (some ⟨g, 0, none⟩) L c) w) (hL : l.length = L) {k : Nat} {f s rk : Int} (r : Int) (hx : l[k]? = some ⟨f, s, rk⟩) :
    OwnP B (l.set k ⟨f, s, r⟩) (.slice (some ⟨g, 0, none⟩) L c) (w.setCell ⟨g, k * 3 + 2, none⟩ (.int .i64 r)) := by
  subst hL
  have := OwnP.set h r hx
  rw [List.length_set] at this
  exact this
theorem OwnP.pasL {B L : Nat} {l : List Pa} {A : Option Addr} {c : Nat} {w : World} (h : OwnP B l (.slice A L c) w) (hL : l.length = L) : PasAt w A l := by subst hL; exact OwnP.pas h
def Apart (u v : Value) : Prop := u.ownBlock = Option.none ∨ u.ownBlock ≠ v.ownBlock
theorem Apart.push {α : Type} {enc : α → List Value} {k T B : Nat} {l : List α} {u v v' : Value} {w : World} (h : Apart u v) (hu : Own enc k T B l u w) {g : Nat} (hat : v'.ownBlock = v.ownBlock ∨ v'.ownBlock = some g) (hg : w.heap.size ≤ g) : Apart u v' := by
  rcases hat with e | e
  · rcases h with h | h
    · exact .inl h
    · exact .inr (by rw [e]; exact h)
  · right
    intro h'
    rw [e] at h'
    have := (hu.lt _ h').2
    omega
theorem Apart.new {α β : Type} {enc : α → List Value} {k T B : Nat} {l : List α} {enc' : β → List Value} {k' T' B' : Nat} {l' : List β} {u v : Value} {w w' : World} (hu : Own enc k T B l u w) (hv : Own enc' k' T' B' l' v w') (hB : w'.heap.size ≤ B) : Apart u v := by
  cases hb : u.ownBlock with
  | none => exact .inl hb
  | some j =>
    right
    intro h
    rw [hb] at h
    have h1 := (hu.lt _ hb).1
    have h2 := (hv.lt _ h.symm).2
    omega
theorem grownBy_setCell (w : World) (g j : Nat) (u : Value) : w.grownBy (w.setCell ⟨g, j, none⟩ u) (some g) :=
  ⟨rfl, rfl, rfl, by simp, fun k _ hk => heap_setCell_other w ⟨g, j, none⟩ k u (fun e => hk (by simp [e]))⟩

/-- What pairs gives. -/
def GivesPs (evs : List Ev) (ed : List Ed) (n : Int) (w : World) (e : Ending) (w' : World) : Prop := ∃ v bound ok, e = .returned (.tuple #[v, .int .i64 bound, .bool ok]) ∧ Below w.heap.size w w' ∧
  (ok = true → ∃ l : List Pa, Hid (OwnP w.heap.size l v w') ∧ Hid (0 < l.length ∧ Rise evs ed n bound l ∧ IsB evs ed n bound l))

set_option maxHeartbeats 8000000 in
theorem pairs_c (AE : Option Addr) (cE : Nat) (evs : List Ev) (au : Au) (p : AuP) (w : World) (hE : EvsAt w AE evs) (hp : Au.At w au p) (lev : evs.length ≤ 140737488355328) (led : au.ed.length ≤ 100000)
    (hin : ∀ y, y ∈ au.ed → 0 ≤ y.ev ∧ y.ev < evs.length) (hn0 : 0 < au.n) (hn5 : au.n ≤ 5) (hed : ∀ y, y ∈ au.ed → 0 ≤ y.dst ∧ y.dst < au.n) :
    Calls Try.prog 13 #[.slice AE evs.length cE, au.val p, .int .i64 1] w (GivesPs evs au.ed au.n w) := by
  have HE := Lib.hid hE
  have HP := Lib.hid hp
  have HIN := Lib.hid hin
  have HED := Lib.hid hed
  clear hE hp hin hed
  obtain ⟨al, n, mr, ed⟩ := au
  obtain ⟨A1, c1, A2, c2, A3, c3⟩ := p
  dsimp only [Au.val] at *
  have W0 : Hid (Fro w.heap.size w (w.alloc (.cells #[.slice A1 al.length c1, .int .i64 n, .slice A2 mr.length c2, .slice A3 ed.length c3] 39))) := (Fro.here w).alloc _
  have D0 : Hid (HasAt w.heap.size [.slice A1 al.length c1, .int .i64 n, .slice A2 mr.length c2, .slice A3 ed.length c3] (w.alloc (.cells #[.slice A1 al.length c1, .int .i64 n, .slice A2 mr.length c2, .slice A3 ed.length c3] 39))) := HasAt.new w _ _ rfl
  go_enter Try.func13, Try.ntmps13
  have hzw : w.heap.size + 1 = (w.alloc (.cells #[.slice A1 al.length c1, .int .i64 n, .slice A2 mr.length c2, .slice A3 ed.length c3] 39)).heap.size := by simp
  go_wp2_with fail
  generalize hW : w.alloc (.cells #[.slice A1 al.length c1, .int .i64 n, .slice A2 mr.length c2, .slice A3 ed.length c3] 39) = W at *
  clear hW
  have O0 : Hid (OwnP W.heap.size [⟨0, 0, -1⟩] (.slice (some ⟨W.heap.size, 0, none⟩) 1 1) (W.alloc (.cells #[.int .i64 0, .int .i64 0, .int .i64 (-1)] 46))) := World.ownsRow_lit W #[.int .i64 0, .int .i64 0, .int .i64 (-1)] 1 (Nat.le_refl _) (by simp [maxLen]) rfl
  have R0 : Hid (Fro W.heap.size W (W.alloc (.cells #[.int .i64 0, .int .i64 0, .int .i64 (-1)] 46))) := (Fro.here W).alloc _
  have G0 := Lib.hid (Grow.start (evs := evs) (ed := ed) hn0)
  go_upto_block 0 with fail
  go_cut [9] (fun v wx => ∃ l : List Pa, Hid (Fro W.heap.size W wx) ∧ Hid (OwnP W.heap.size l v wx) ∧ Hid (Grow evs ed n l.length 0 l))
  case first =>
    generalize W.alloc (.cells #[.int .i64 0, .int .i64 0, .int .i64 (-1)] 46) = W1 at *
    go_wp2_with fail
    go_loopw [9, 10] (fun v i wr => ∃ (k : Nat) (l : List Pa), k ≤ l.length ∧ i = .int .i64 k ∧ Hid (Fro W.heap.size W wr) ∧ Hid (OwnP W.heap.size l v wr) ∧ Hid (Grow evs ed n k 0 l)) (fun _ i _ => 51 - (intOf i).toNat)
    case atStart => exact ⟨0, _, by simp, rfl, R0.out, O0.out, G0.out⟩
    case round =>
      obtain ⟨k, l, hk, rfl, R, O, G⟩ := hrel
      have hl50 := G.out.un.len hn5 (fun x hx => (G.out.in_ x hx).1)
      have hl0 := (List.getElem?_eq_some_iff.1 G.out.st).1
      obtain ⟨g, c, rfl, hg, hgz⟩ := ownP_form O.out hl0
      have RW := Lib.hid (W0.out.trans (R.out.mono W0.out.z))
      by_cases hlt : k < l.length
      · obtain ⟨x, hx⟩ : ∃ x, l[k]? = some x := ⟨_, List.getElem?_eq_getElem hlt⟩
        obtain ⟨bb, off, hAL, hbl, p0, p1, p2⟩ := PasAt.get (OwnP.pas O.out) hx
        cases hAL
        obtain ⟨f, s, rk⟩ := x
        dsimp only at p0 p1 p2
        rw [Nat.zero_add] at p0 p1 p2
        have HX := Lib.hid hx
        have D1 := Lib.hid (D0.out.below R.out.b)
        have zD := D1.out.z
        have SC : Hid (∀ V, Fro wr.heap.size wr V → V.cell? ⟨w.heap.size, 0, none⟩ = some (.slice A1 al.length c1) ∧ V.cell? ⟨w.heap.size, 1, none⟩ = some (.int .i64 n) ∧ V.cell? ⟨w.heap.size, 2, none⟩ = some (.slice A2 mr.length c2) ∧ V.cell? ⟨w.heap.size, 3, none⟩ = some (.slice A3 ed.length c3) ∧ V.cell? ⟨g, k * 3, none⟩ = some (.int .i64 f) ∧ V.cell? ⟨g, k * 3 + 1, none⟩ = some (.int .i64 s) ∧ V.cell? ⟨g, k * 3 + 2, none⟩ = some (.int .i64 rk)) := fun V hb =>
          ⟨(D1.out.below hb.b).c 0 _ rfl, (D1.out.below hb.b).c 1 _ rfl, (D1.out.below hb.b).c 2 _ rfl, (D1.out.below hb.b).c 3 _ rfl, old_cell hb.b p0 hgz, old_cell hb.b p1 hgz, old_cell hb.b p2 hgz⟩
        have MC : Hid (∀ V, Fro wr.heap.size wr V → Calls Try.prog 41 #[.slice AE evs.length cE, .agg #[.slice A1 al.length c1, .int .i64 n, .slice A2 mr.length c2, .slice A3 ed.length c3], .int .i64 1, .agg #[.int .i64 f, .int .i64 s, .int .i64 rk]] V (GivesM (movesV evs ed 1 f s ed) V)) := fun V hb =>
          moves_c AE cE evs ⟨al, n, mr, ed⟩ ⟨A1, c1, A2, c2, A3, c3⟩ 1 f s rk V (HE.out.below EvE.stays (RW.out.next hb.b).b) (HP.out.below (RW.out.next hb.b).b) lev led HIN.out
        have T0 : Hid (Fro wr.heap.size wr wr.drew) := (Fro.here wr).drew
        have sc := SC.out wr (Fro.here wr)
        go_wp2_with fail
        clear p0 p1 p2
        go_region_held3 (fun V => V.cell? ⟨w.heap.size, 0, none⟩ = some (.slice A1 al.length c1) ∧ V.cell? ⟨w.heap.size, 1, none⟩ = some (.int .i64 n) ∧ V.cell? ⟨w.heap.size, 2, none⟩ = some (.slice A2 mr.length c2) ∧ V.cell? ⟨w.heap.size, 3, none⟩ = some (.slice A3 ed.length c3) ∧ V.cell? ⟨g, k * 3, none⟩ = some (.int .i64 f) ∧ V.cell? ⟨g, k * 3 + 1, none⟩ = some (.int .i64 s) ∧ V.cell? ⟨g, k * 3 + 2, none⟩ = some (.int .i64 rk)) (first | exact SC.out _ T1.out | exact SC.out _ T0.out | exact SC.out _ (Fro.here wr) | go_keep) (
          first | (go_at_call 41; ((with_reducible refine (MC.out _ T0.out).mono ?_); rintro e w3 ⟨AM, cM, rfl, hm, hb⟩; have T1 := Lib.hid (T0.out.next hb); have HM := Lib.hid hm.out; clear hb hm)))
        have MS : Hid (OwnM wr.heap.size (movesV evs ed 1 f s ed) (.slice AM (movesV evs ed 1 f s ed).length cM) w3) := HM.out
        have AP := Lib.hid (Apart.new HM.out O.out (Nat.le_refl _))
        have R3 := Lib.hid (R.out.next T1.out.b)
        have O3 := Lib.hid (O.out.below T1.out.b (Nat.le_refl _))
        have hml := movesV_len evs ed 1 f s ed
        obtain ⟨ms, hms⟩ : ∃ ms, ms = movesV evs ed 1 f s ed := ⟨_, rfl⟩
        have ME := Lib.hid hms
        rw [← hms] at hml MS AP ⊢
        have z3 : wr.heap.size ≤ w3.heap.size := T1.out.z
        clear HM hms SC MC T0 T1 sc hx O D1
        go_wp2_with fail
        go_loopw [9, 37] (fun v i wi => ∃ (j : Nat) (l' : List Pa), j ≤ ms.length ∧ i = .int .i64 j ∧ Hid (Fro W.heap.size W wi) ∧ Hid (w3.heap.size ≤ wi.heap.size) ∧ Hid (OwnP W.heap.size l' v wi) ∧ Hid (OwnM wr.heap.size ms (.slice AM ms.length cM) wi) ∧ Hid (Apart (.slice AM ms.length cM) v) ∧ Hid (Grow evs ed n k j l' ∧ l'[k]? = some ⟨f, s, rk⟩)) (fun _ i _ => ms.length - (intOf i).toNat)
        case atStart => exact ⟨0, l, by omega, rfl, R3.out, Nat.le_refl _, O3.out, MS.out, AP.out, G.out, HX.out⟩
        case round =>
          obtain ⟨wi, rfl⟩ : ∃ wi : World, wi = wr := ⟨_, rfl⟩
          obtain ⟨j, l', hj, rfl, RI, ZI, OI, MI, AI, GI⟩ := hrel
          have hkl := (List.getElem?_eq_some_iff.1 GI.out.2).1
          have hl50' := GI.out.1.un.len hn5 (fun x hx => (GI.out.1.in_ x hx).1)
          obtain ⟨g', c', rfl, hg', hgz'⟩ := ownP_form OI.out (by omega)
          by_cases hjl : j < ms.length
          · obtain ⟨m, hm⟩ : ∃ m, ms[j]? = some m := ⟨_, List.getElem?_eq_getElem hjl⟩
            obtain ⟨bm, om, hAM, hbm, k0, k1, k2, k3, k4⟩ := SlMv.get (Own.reads (fun _ => rfl) MI.out) hm
            subst hAM
            obtain ⟨mf, mt, one, flt⟩ := m
            dsimp only at k0 k1 k2 k3 k4
            obtain ⟨b6, o6, hA6, hb6, p0, p1, p2⟩ := PasAt.get (OwnP.pas OI.out) GI.out.2
            cases hA6
            dsimp only at p2
            rw [Nat.zero_add] at p2
            clear p0 p1
            have HM := Lib.hid (show (movesV evs ed 1 f s ed)[j]? = some ⟨mf, mt, one, flt⟩ by rw [← ME.out]; exact hm)
            clear hm
            have X0 : Hid (BlkAt (wi.alloc (.cells #[.int .i64 mf, .int .i64 mt, .int .i64 0, .bool one, .bool flt] 108)) wi.heap.size 108 [.int .i64 mf, .int .i64 mt, .int .i64 0, .bool one, .bool flt]) := BlkAt.new wi _ [_, _, _, _, _]
            have OX := Lib.hid (OI.out.alloc (.cells #[.int .i64 mf, .int .i64 mt, .int .i64 0, .bool one, .bool flt] 108))
            have MX := Lib.hid (MI.out.alloc (.cells #[.int .i64 mf, .int .i64 mt, .int .i64 0, .bool one, .bool flt] 108))
            have RX := Lib.hid (RI.out.alloc (.cells #[.int .i64 mf, .int .i64 mt, .int .i64 0, .bool one, .bool flt] 108))
            obtain ⟨bq, hbq⟩ : ∃ bq : Bool, bq = (decide (0 ≤ rk) || flt) := ⟨_, rfl⟩
            have BQ := Lib.hid hbq
            clear hbq
            go_upto_region 8 with fail
            go_cut [13] (fun v wx => v = .bool bq ∧ wx = wi.alloc (.cells #[.int .i64 mf, .int .i64 mt, .int .i64 0, .bool one, .bool flt] 108))
            case first =>
              by_cases hr : 0 ≤ rk
              · have hr' : decide (0 ≤ rk) = true := by simpa using hr
                clear hr
                go_wp2_with fail
                go_meet
                exact ⟨by rw [BQ.out, hr', Bool.true_or], rfl⟩
              · have hr' : decide (0 ≤ rk) = false := by simpa using hr
                clear hr
                go_wp2_with fail
                go_meet
                exact ⟨by rw [BQ.out, hr', Bool.false_or], rfl⟩
            case rest =>
              obtain ⟨rfl, rfl⟩ := hcut
              have RI0 := RI
              have MI0 := MI
              clear k0 k1 k2 k3 k4 p2 RI OI MI
              have ZX : Hid (w3.heap.size ≤ (wi.alloc (.cells #[.int .i64 mf, .int .i64 mt, .int .i64 0, .bool one, .bool flt] 108)).heap.size) := by simp only [World.size_alloc]; exact Nat.le_succ_of_le ZI.out
              have NX : Hid (g' < wi.heap.size ∧ W.heap.size ≤ wi.heap.size) := ⟨hgz', RI0.out.z⟩
              have NM : Hid (NotIn (.slice (some ⟨bm, om, none⟩) ms.length cM) wi.heap.size) := MI0.out.notIn (Nat.le_refl _)
              obtain ⟨bx, hbx⟩ : ∃ bx, bx = wi.heap.size := ⟨_, rfl⟩
              rw [← hbx] at X0 NX NM ⊢
              clear hgz' hbm hb6 RI0 MI0
              generalize wi.alloc (.cells #[.int .i64 mf, .int .i64 mt, .int .i64 0, .bool one, .bool flt] 108) = WI at *
              clear hbx
              have y0 := X0.out.atP 0 _ rfl
              have y1 := X0.out.atP 1 _ rfl
              have y2 := X0.out.atP 2 _ rfl
              go_wp2_with fail
              refine (lookup_c (some ⟨g', 0, none⟩) c' l' mf mt 0 bq WI (OwnP.pas OX.out) (by omega)).mono ?_
              rintro e w5 ⟨rfl, hb⟩
              have R5 := Lib.hid (RX.out.next hb)
              have X5 := Lib.hid (BlkAt.below X0.out hb X0.out.lt)
              have O5 := Lib.hid (OX.out.below hb (Nat.le_refl _))
              have M5 := Lib.hid (MX.out.below hb (Nat.le_refl _))
              have Z5 : Hid (w3.heap.size ≤ w5.heap.size) := Nat.le_trans ZX.out hb.size
              clear hb y0 y1 y2 X0 OX MX RX ZX
              simp only
              by_cases hq : lookV l' mf mt bq = -1
              rotate_left
              · obtain ⟨k', x', hq', _, _⟩ := lookV_some hq
                have GN := Lib.hid (GI.out.1.old GI.out.2 HM.out (by unfold tgt; rw [← BQ.out]; exact hq))
                rw [hq']
                have hge : decide (0 ≤ (k' : Int)) = true := by simp
                clear hq hq'
                go_wp2
                go_roundw
                case rel => exact ⟨j + 1, l', by omega, by go_num, R5.out, Z5.out, O5.out, M5.out, AI.out, GN.out, GI.out.2⟩
                case measure => simp [intOf]; omega
              · have QN := Lib.hid hq
                rw [hq]
                clear hq
                cases bq
                · have x0 := X5.out.atP 0 _ rfl
                  have x1 := X5.out.atP 1 _ rfl
                  have x2 := X5.out.atP 2 _ rfl
                  have xf := X5.out.free 2
                  have X6 : Hid (BlkAt (w5.setCell ⟨bx, 2, none⟩ (.int .i64 (-1))) bx 108 [.int .i64 mf, .int .i64 mt, .int .i64 (-1), .bool one, .bool flt]) := X5.out.set_ 2 _
                  have O6 : Hid (OwnP W.heap.size l' (.slice (some ⟨g', 0, none⟩) l'.length c') (w5.setCell ⟨bx, 2, none⟩ (.int .i64 (-1)))) := O5.out.kept (grownBy_setCell w5 bx 2 _) (.inr (by simp only [Value.ownBlock]; intro h; have := NX.out.1; cases h; omega))
                  have M6 : Hid (OwnM wr.heap.size ms (.slice (some ⟨bm, om, none⟩) ms.length cM) (w5.setCell ⟨bx, 2, none⟩ (.int .i64 (-1)))) := M5.out.kept (grownBy_setCell w5 bx 2 _) (.inr NM.out)
                  have R6 : Hid (Fro W.heap.size W (w5.setCell ⟨bx, 2, none⟩ (.int .i64 (-1)))) := R5.out.setCell NX.out.2 _
                  have Z6 : Hid (w3.heap.size ≤ (w5.setCell ⟨bx, 2, none⟩ (.int .i64 (-1))).heap.size) := by rw [Hid, World.size_setCell]; exact Z5.out
                  clear X5 O5 M5 R5 Z5
                  go_wp2_with (at_builtin; refine wpList_push rfl _ _ 33 rfl (O6.out.alloc _) Try.underlying33 _ 24 paInfo rfl (by decide) rfl (⟨mf, mt, -1⟩ : Pa) _ rfl rfl (one_cell _ _ _ _ (by simp)) (paOne _) (by omega) (by decide) (R6.out.alloc _).z ?_)
                  intro A' c9 w6 ho hg hat
                  have HO := Lib.hid ho
                  have HG := Lib.hid hg
                  have HA := Lib.hid hat
                  clear ho hg hat
                  have GN := Lib.hid (GI.out.1.push HED.out GI.out.2 HM.out BQ.out QN.out (r := -1) rfl)
                  go_wp2_with fail
                  go_roundw
                  case rel => exact ⟨j + 1, _, by omega, by go_num, (R6.out.alloc _).push (O6.out.alloc _) HG.out, Nat.le_trans Z6.out (Nat.le_trans (by simp) HG.out.size), HO.out, (M6.out.alloc _).kept HG.out AI.out, AI.out.push M6.out HA.out (by simp), GN.out, by rw [List.getElem?_append_left hkl]; exact GI.out.2⟩
                  case measure => simp [intOf]; omega
                · have x0 := X5.out.atP 0 _ rfl
                  have x1 := X5.out.atP 1 _ rfl
                  have x2 := X5.out.atP 2 _ rfl
                  go_wp2_with (at_builtin; refine wpList_push rfl _ _ 33 rfl (O5.out.alloc _) Try.underlying33 _ 24 paInfo rfl (by decide) rfl (⟨mf, mt, 0⟩ : Pa) _ rfl rfl (one_cell _ _ _ _ rfl) (paOne _) (by omega) (by decide) (R5.out.alloc _).z ?_)
                  intro A' c9 w6 ho hg hat
                  have HO := Lib.hid ho
                  have HG := Lib.hid hg
                  have HA := Lib.hid hat
                  clear ho hg hat
                  have GN := Lib.hid (GI.out.1.push HED.out GI.out.2 HM.out BQ.out QN.out (r := 0) rfl)
                  go_wp2_with fail
                  go_roundw
                  case rel => exact ⟨j + 1, _, by omega, by go_num, (R5.out.alloc _).push (O5.out.alloc _) HG.out, Nat.le_trans Z5.out (Nat.le_trans (by simp) HG.out.size), HO.out, (M5.out.alloc _).kept HG.out AI.out, AI.out.push M5.out HA.out (by simp), GN.out, by rw [List.getElem?_append_left hkl]; exact GI.out.2⟩
                  case measure => simp [intOf]; omega
          · obtain rfl : j = ms.length := by omega
            go_wp2
            go_roundw
            case rel => exact ⟨k + 1, l', by omega, by go_num, RI.out, OI.out, GI.out.1.next GI.out.2 (by rw [← ME.out]; exact Nat.le_refl _)⟩
            case measure => simp [intOf]; omega
      · obtain rfl : k = l.length := by omega
        go_wp2_with fail
        go_meet
        exact ⟨l, R.out, O.out, G.out⟩
  case rest =>
    obtain ⟨l, R, O, G⟩ := hcut
    have RI := Lib.hid G.out.rise
    have hl0 := (List.getElem?_eq_some_iff.1 G.out.st).1
    have hl50 := G.out.un.len hn5 (fun x hx => (G.out.in_ x hx).1)
    obtain ⟨g, c, rfl, hg, hgz⟩ := ownP_form O.out hl0
    obtain ⟨L, hL⟩ : ∃ L, l.length = L := ⟨_, rfl⟩
    have HL := Lib.hid hL
    rw [hL] at O hl0 hl50 ⊢
    clear R0 O0 G0 G hL hgz
    go_wp2_with fail
    go_loopg [14, 15] (slack l + 1) (fun gh bd ch wr => ∃ (l' : List Pa) (bound : Int) (b : Bool), bd = .int .i64 bound ∧ ch = .bool b ∧ Hid (Fro W.heap.size W wr) ∧ Hid (l'.length = L) ∧ Hid (OwnP W.heap.size l' (.slice (some ⟨g, 0, none⟩) L c) wr) ∧ Hid (Rise evs ed n bound l') ∧ Hid (b = true → slack l' < gh) ∧ Hid (b = false → Pass evs ed bound L 0 l'))
    case atStart => exact ⟨l, 0, true, rfl, rfl, R.out, HL.out, O.out, RI.out, fun _ => Nat.lt_succ_self _, fun h => by cases h⟩
    case round =>
      obtain ⟨l', bound, b, rfl, rfl, R', HL', O', RI', SL, PS⟩ := hrel
      clear R O RI HL
      cases b
      · have YES : Hid (IsB evs ed n bound l') := by
          have := PS.out rfl
          rw [← HL'.out] at this
          exact this.isB RI'.out
        go_wp2
        refine bodyPost_ret (v := .tuple #[.slice (some ⟨g, 0, none⟩) L c, .int .i64 bound, .bool true]) (by simp [results, Try.results13, go_sem, *]) rfl ?_
        exact ⟨_, bound, true, rfl, (W0.out.trans (R'.out.mono W0.out.z)).b, fun _ => ⟨l', Own.base O'.out W0.out.z, by rw [HL'.out]; exact hl0, RI'.out, YES.out⟩⟩
      · have S0 := Lib.hid (SL.out rfl)
        clear SL PS
        go_wp2_with fail
        go_loopw [14, 15, 16] (fun bd ch i wi => ∃ (k : Nat) (l2 : List Pa) (bound : Int) (b : Bool), bd = .int .i64 bound ∧ ch = .bool b ∧ i = .int .i64 k ∧ k ≤ L ∧ Hid (Fro W.heap.size W wi) ∧ Hid (l2.length = L) ∧ Hid (OwnP W.heap.size l2 (.slice (some ⟨g, 0, none⟩) L c) wi) ∧ Hid (Rise evs ed n bound l2) ∧ Hid (slack l2 ≤ slack l' ∧ (b = true → slack l2 < slack l') ∧ (b = false → Pass evs ed bound k 0 l2))) (fun _ _ i _ => L - (intOf i).toNat)
        case atStart => exact ⟨0, l', bound, false, rfl, rfl, rfl, by omega, R'.out, HL'.out, O'.out, RI'.out, Nat.le_refl _, fun h => by simp at h, fun _ => Pass.start _ _ _ _⟩
        case round =>
          clear R' HL' O' RI'
          obtain ⟨k, l2, bound2, b, rfl, rfl, rfl, hk, R, HL, O, RI, SP⟩ := hrel
          have RW := Lib.hid (W0.out.trans (R.out.mono W0.out.z))
          by_cases hlt : k < L
          · obtain ⟨x, hx⟩ : ∃ x, l2[k]? = some x := ⟨_, List.getElem?_eq_getElem (by rw [HL.out]; exact hlt)⟩
            obtain ⟨bb, off, hAL, hgz, p0, p1, p2⟩ := PasAt.get (OwnP.pasL O.out HL.out) hx
            cases hAL
            obtain ⟨f, s, rk⟩ := x
            dsimp only at p0 p1 p2
            rw [Nat.zero_add] at p0 p1 p2
            have HX := Lib.hid hx
            have D1 := Lib.hid (D0.out.below R.out.b)
            have zD := D1.out.z
            have SC : Hid (∀ V, Fro wr.heap.size wr V → V.cell? ⟨w.heap.size, 0, none⟩ = some (.slice A1 al.length c1) ∧ V.cell? ⟨w.heap.size, 1, none⟩ = some (.int .i64 n) ∧ V.cell? ⟨w.heap.size, 2, none⟩ = some (.slice A2 mr.length c2) ∧ V.cell? ⟨w.heap.size, 3, none⟩ = some (.slice A3 ed.length c3) ∧ V.cell? ⟨g, k * 3, none⟩ = some (.int .i64 f) ∧ V.cell? ⟨g, k * 3 + 1, none⟩ = some (.int .i64 s) ∧ V.cell? ⟨g, k * 3 + 2, none⟩ = some (.int .i64 rk)) := fun V hb =>
              ⟨(D1.out.below hb.b).c 0 _ rfl, (D1.out.below hb.b).c 1 _ rfl, (D1.out.below hb.b).c 2 _ rfl, (D1.out.below hb.b).c 3 _ rfl, old_cell hb.b p0 hgz, old_cell hb.b p1 hgz, old_cell hb.b p2 hgz⟩
            have MC : Hid (∀ V, Fro wr.heap.size wr V → Calls Try.prog 41 #[.slice AE evs.length cE, .agg #[.slice A1 al.length c1, .int .i64 n, .slice A2 mr.length c2, .slice A3 ed.length c3], .int .i64 1, .agg #[.int .i64 f, .int .i64 s, .int .i64 rk]] V (GivesM (movesV evs ed 1 f s ed) V)) := fun V hb =>
              moves_c AE cE evs ⟨al, n, mr, ed⟩ ⟨A1, c1, A2, c2, A3, c3⟩ 1 f s rk V (HE.out.below EvE.stays (RW.out.next hb.b).b) (HP.out.below (RW.out.next hb.b).b) lev led HIN.out
            have T0 : Hid (Fro wr.heap.size wr wr.drew) := (Fro.here wr).drew
            have sc := SC.out wr (Fro.here wr)
            go_wp2_with fail
            clear p0 p1 p2
            go_region_held3 (fun V => V.cell? ⟨w.heap.size, 0, none⟩ = some (.slice A1 al.length c1) ∧ V.cell? ⟨w.heap.size, 1, none⟩ = some (.int .i64 n) ∧ V.cell? ⟨w.heap.size, 2, none⟩ = some (.slice A2 mr.length c2) ∧ V.cell? ⟨w.heap.size, 3, none⟩ = some (.slice A3 ed.length c3) ∧ V.cell? ⟨g, k * 3, none⟩ = some (.int .i64 f) ∧ V.cell? ⟨g, k * 3 + 1, none⟩ = some (.int .i64 s) ∧ V.cell? ⟨g, k * 3 + 2, none⟩ = some (.int .i64 rk)) (first | exact SC.out _ T1.out | exact SC.out _ T0.out | exact SC.out _ (Fro.here wr) | go_keep) (
              first | (go_at_call 41; ((with_reducible refine (MC.out _ T0.out).mono ?_); rintro e w3 ⟨AM, cM, rfl, hm, hb⟩; have T1 := Lib.hid (T0.out.next hb); have HM := Lib.hid hm.out; clear hb hm)))
            have MS : Hid (OwnM wr.heap.size (movesV evs ed 1 f s ed) (.slice AM (movesV evs ed 1 f s ed).length cM) w3) := HM.out
            have R3 := Lib.hid (R.out.next T1.out.b)
            have O3 := Lib.hid (O.out.below T1.out.b (Nat.le_refl _))
            have hml := movesV_len evs ed 1 f s ed
            obtain ⟨ms, hms⟩ : ∃ ms, ms = movesV evs ed 1 f s ed := ⟨_, rfl⟩
            have ME := Lib.hid hms
            rw [← hms] at hml MS ⊢
            have z3 : wr.heap.size ≤ w3.heap.size := T1.out.z
            have PS : Hid (b = false → Pass evs ed bound2 k 0 l2) := SP.out.2.2
            have SLb : Hid (b = true → slack l2 < slack l') := SP.out.2.1
            have SLl : Hid (slack l2 ≤ slack l') := SP.out.1
            clear HM hms SC MC T0 T1 sc hx O D1 SP R RW
            go_wp2_with fail
            go_loopw [14, 15, 83] (fun bd ch i wi => ∃ (j : Nat) (l3 : List Pa) (bound : Int) (b : Bool) (rk : Int), bd = .int .i64 bound ∧ ch = .bool b ∧ i = .int .i64 j ∧ j ≤ ms.length ∧ Hid (Fro W.heap.size W wi) ∧ Hid (w3.heap.size ≤ wi.heap.size) ∧ Hid (l3.length = L ∧ l3[k]? = some ⟨f, s, rk⟩) ∧ Hid (OwnP W.heap.size l3 (.slice (some ⟨g, 0, none⟩) L c) wi) ∧ Hid (OwnM wr.heap.size ms (.slice AM ms.length cM) wi) ∧ Hid (Rise evs ed n bound l3) ∧ Hid (slack l3 ≤ slack l' ∧ (b = true → slack l3 < slack l') ∧ (b = false → Pass evs ed bound k j l3))) (fun _ _ i _ => ms.length - (intOf i).toNat)
            case atStart => exact ⟨0, l2, bound2, b, rk, rfl, rfl, rfl, by omega, R3.out, Nat.le_refl _, ⟨HL.out, HX.out⟩, O3.out, MS.out, RI.out, SLl.out, SLb.out, PS.out⟩
            case round =>
              obtain ⟨wi, rfl⟩ : ∃ wi : World, wi = wr := ⟨_, rfl⟩
              clear R3 O3 MS RI HL HX PS SLb SLl
              obtain ⟨j, l3, bound3, b3, rk3, rfl, rfl, rfl, hj, RJ, ZJ, LJ, OJ, MJ, RIJ, SPJ⟩ := hrel
              by_cases hjl : j < ms.length
              · obtain ⟨m, hm⟩ : ∃ m, ms[j]? = some m := ⟨_, List.getElem?_eq_getElem hjl⟩
                obtain ⟨bm, om, hAM, hbm, k0, k1, k2, k3, k4⟩ := SlMv.get (Own.reads (fun _ => rfl) MJ.out) hm
                subst hAM
                obtain ⟨mf, mt, one, flt⟩ := m
                dsimp only at k0 k1 k2 k3 k4
                obtain ⟨b6, o6, hA6, hb6, p0, p1, p2⟩ := PasAt.get (OwnP.pasL OJ.out LJ.out.1) LJ.out.2
                cases hA6
                dsimp only at p2
                rw [Nat.zero_add] at p2
                clear p0 p1
                have HM := Lib.hid (show (movesV evs ed 1 f s ed)[j]? = some ⟨mf, mt, one, flt⟩ by rw [← ME.out]; exact hm)
                clear hm
                have X0 : Hid (HasAt wi.heap.size [.int .i64 mf, .int .i64 mt, .int .i64 0, .bool one, .bool flt] (wi.alloc (.cells #[.int .i64 mf, .int .i64 mt, .int .i64 0, .bool one, .bool flt] 108))) := HasAt.new wi _ _ rfl
                have OX := Lib.hid (OJ.out.alloc (.cells #[.int .i64 mf, .int .i64 mt, .int .i64 0, .bool one, .bool flt] 108))
                have MX := Lib.hid (MJ.out.alloc (.cells #[.int .i64 mf, .int .i64 mt, .int .i64 0, .bool one, .bool flt] 108))
                have RX := Lib.hid (RJ.out.alloc (.cells #[.int .i64 mf, .int .i64 mt, .int .i64 0, .bool one, .bool flt] 108))
                have ZX : Hid (w3.heap.size ≤ (wi.alloc (.cells #[.int .i64 mf, .int .i64 mt, .int .i64 0, .bool one, .bool flt] 108)).heap.size) := by simp only [Hid, World.size_alloc]; exact Nat.le_succ_of_le ZJ.out
                have PX : Hid ((wi.alloc (.cells #[.int .i64 mf, .int .i64 mt, .int .i64 0, .bool one, .bool flt] 108)).cell? ⟨g, k * 3 + 2, none⟩ = some (.int .i64 rk3)) := old_cell (Below.new wi _) p2 hb6
                have GX : Hid (g < (wi.alloc (.cells #[.int .i64 mf, .int .i64 mt, .int .i64 0, .bool one, .bool flt] 108)).heap.size) := by simp only [Hid, World.size_alloc]; exact Nat.lt_succ_of_lt hb6
                go_upto_region 24 with fail
                clear k0 k1 k2 k3 k4 p2 OJ MJ RJ ZJ
                obtain ⟨bx, hbx⟩ : ∃ bx, bx = wi.heap.size := ⟨_, rfl⟩
                rw [← hbx] at X0 ⊢
                clear hbm hb6
                generalize wi.alloc (.cells #[.int .i64 mf, .int .i64 mt, .int .i64 0, .bool one, .bool flt] 108) = WI at *
                clear hbx
                have hmx : (⟨mf, mt, one, flt⟩ : Mv) ∈ movesV evs ed 1 f s ed := List.mem_of_getElem? HM.out
                obtain ⟨kt, ⟨f', s', r'⟩, hq, hp, hit⟩ := lookV_some (RIJ.out.cl _ (List.mem_of_getElem? LJ.out.2) _ hmx)
                dsimp only at hq
                obtain ⟨bt, ot, hAt, hbt, t0, t1, t2⟩ := PasAt.get (OwnP.pasL OX.out LJ.out.1) hp
                cases hAt
                dsimp only at t2
                rw [Nat.zero_add] at t2
                have HQ := Lib.hid hq
                have HPT := Lib.hid hp
                have hktL : kt < L := by have := (List.getElem?_eq_some_iff.1 hp).1; rw [LJ.out.1] at this; exact this
                clear t0 t1 hq hp hit hmx
                have SC5 : Hid (∀ V, Fro WI.heap.size WI V → V.cell? ⟨bx, 0, none⟩ = some (.int .i64 mf) ∧ V.cell? ⟨bx, 1, none⟩ = some (.int .i64 mt) ∧ V.cell? ⟨bx, 2, none⟩ = some (.int .i64 0) ∧ V.cell? ⟨bx, 3, none⟩ = some (.bool one) ∧ V.cell? ⟨bx, 4, none⟩ = some (.bool flt) ∧ V.cell? ⟨g, k * 3 + 2, none⟩ = some (.int .i64 rk3) ∧ V.cell? ⟨g, kt * 3 + 2, none⟩ = some (.int .i64 r')) := fun V hb =>
                  ⟨(X0.out.below hb.b).c 0 _ rfl, (X0.out.below hb.b).c 1 _ rfl, (X0.out.below hb.b).c 2 _ rfl, (X0.out.below hb.b).c 3 _ rfl, (X0.out.below hb.b).c 4 _ rfl, old_cell hb.b PX.out hbt, old_cell hb.b t2 hbt⟩
                have LC5 : Hid (∀ V, Fro WI.heap.size WI V → Calls Try.prog 40 #[.slice (some ⟨g, 0, none⟩) L c, .agg #[.int .i64 mf, .int .i64 mt, .int .i64 0], .bool (decide (0 ≤ rk3) || flt)] V (Ret (.int .i64 kt) V)) := fun V hb => by
                  have h := lookup_c (some ⟨g, 0, none⟩) c l3 mf mt 0 (decide (0 ≤ rk3) || flt) V (OwnP.pasL (OX.out.below hb.b (Nat.le_refl _)) LJ.out.1) (by rw [LJ.out.1]; omega)
                  rw [HQ.out, LJ.out.1] at h
                  exact h
                have T0 : Hid (Fro WI.heap.size WI WI.drew) := (Fro.here WI).drew
                clear t2
                go_cut [19] (fun v wx => v = .int .i64 r' ∧ Hid (Fro WI.heap.size WI wx))
                case first =>
                  by_cases hr : 0 ≤ rk3
                  · have hr' : decide (0 ≤ rk3) = true := by simpa using hr
                    have LC6 : Hid (∀ V, Fro WI.heap.size WI V → Calls Try.prog 40 #[.slice (some ⟨g, 0, none⟩) L c, .agg #[.int .i64 mf, .int .i64 mt, .int .i64 0], .bool true] V (Ret (.int .i64 kt) V)) := fun V hb => by have := LC5.out V hb; rw [hr', Bool.true_or] at this; exact this
                    clear hr
                    refine wp_region_held_drew (S := fun V => V.cell? ⟨bx, 0, none⟩ = some (.int .i64 mf) ∧ V.cell? ⟨bx, 1, none⟩ = some (.int .i64 mt) ∧ V.cell? ⟨bx, 2, none⟩ = some (.int .i64 0) ∧ V.cell? ⟨bx, 3, none⟩ = some (.bool one) ∧ V.cell? ⟨bx, 4, none⟩ = some (.bool flt) ∧ V.cell? ⟨g, k * 3 + 2, none⟩ = some (.int .i64 rk3) ∧ V.cell? ⟨g, kt * 3 + 2, none⟩ = some (.int .i64 r')) (by kernel_rfl) ?_ (fun hHeld => ?_)
                    · exact SC5.out _ T0.out
                    refine wpAnyH_take (i := 0) (v := ?_) rfl (by kernel_rfl) (by kernel_rfl) (by kernel_rfl) (fun _ _ _ h => h) (Or.inl ⟨?_, ?_⟩) hHeld ?_
                    rotate_left
                    · kernel_rfl
                    · (intro w hSw; (try dsimp only at hSw); first | (go_simp; done) | (go_simp; with_reducible rfl))
                    try simp only [List.getElem_toArray, List.getElem_cons_zero, List.getElem_cons_succ, Act.put, List.setIfInBounds_toArray, List.set_cons_zero, List.set_cons_succ]
                    refine wpAnyH_take (i := 1) (v := ?_) rfl (by kernel_rfl) (by kernel_rfl) (by kernel_rfl) (fun _ _ _ h => h) (Or.inl ⟨?_, ?_⟩) hHeld ?_
                    rotate_left
                    · kernel_rfl
                    · (intro w hSw; (try dsimp only at hSw); first | (go_simp; done) | (go_simp; with_reducible rfl))
                    try simp only [List.getElem_toArray, List.getElem_cons_zero, List.getElem_cons_succ, Act.put, List.setIfInBounds_toArray, List.set_cons_zero, List.set_cons_succ]
                    refine wpAnyH_take (i := 2) (v := ?_) rfl (by kernel_rfl) (by kernel_rfl) (by kernel_rfl) (fun _ _ _ h => h) (Or.inl ⟨?_, ?_⟩) hHeld ?_
                    rotate_left
                    · kernel_rfl
                    · (intro w hSw; (try dsimp only at hSw); first | (go_simp; done) | (go_simp; with_reducible rfl))
                    try simp only [List.getElem_toArray, List.getElem_cons_zero, List.getElem_cons_succ, Act.put, List.setIfInBounds_toArray, List.set_cons_zero, List.set_cons_succ]
                    refine wpAnyH_take (i := 3) (v := ?_) rfl (by kernel_rfl) (by kernel_rfl) (by kernel_rfl) (fun _ _ _ h => h) (Or.inl ⟨?_, ?_⟩) hHeld ?_
                    rotate_left
                    · kernel_rfl
                    · (intro w hSw; (try dsimp only at hSw); first | (go_simp; done) | (go_simp; with_reducible rfl))
                    try simp only [List.getElem_toArray, List.getElem_cons_zero, List.getElem_cons_succ, Act.put, List.setIfInBounds_toArray, List.set_cons_zero, List.set_cons_succ]
                    refine wpAnyH_take (i := 4) (v := ?_) rfl (by kernel_rfl) (by kernel_rfl) (by kernel_rfl) (fun _ _ _ h => h) (Or.inl ⟨?_, ?_⟩) hHeld ?_
                    rotate_left
                    · kernel_rfl
                    · (intro w hSw; (try dsimp only at hSw); first | (go_simp; done) | (go_simp; with_reducible rfl))
                    try simp only [List.getElem_toArray, List.getElem_cons_zero, List.getElem_cons_succ, Act.put, List.setIfInBounds_toArray, List.set_cons_zero, List.set_cons_succ]
                    refine wpAnyH_take (i := 5) (v := ?_) rfl (by kernel_rfl) (by kernel_rfl) (by kernel_rfl) (fun _ _ _ h => h) (Or.inl ⟨?_, ?_⟩) hHeld ?_
                    rotate_left
                    · kernel_rfl
                    · (intro w hSw; (try dsimp only at hSw); first | (go_simp; done) | (go_simp; with_reducible rfl))
                    try simp only [List.getElem_toArray, List.getElem_cons_zero, List.getElem_cons_succ, Act.put, List.setIfInBounds_toArray, List.set_cons_zero, List.set_cons_succ]
                    refine wpAnyH_take (i := 6) (v := ?_) rfl (by kernel_rfl) (by kernel_rfl) (by kernel_rfl) (fun _ _ _ h => h) (Or.inl ⟨?_, ?_⟩) hHeld ?_
                    rotate_left
                    · kernel_rfl
                    · (intro w hSw; (try dsimp only at hSw); first | (go_simp; done) | (go_simp; with_reducible rfl))
                    try simp only [List.getElem_toArray, List.getElem_cons_zero, List.getElem_cons_succ, Act.put, List.setIfInBounds_toArray, List.set_cons_zero, List.set_cons_succ]
                    refine wpAnyH_take (i := 7) (v := ?_) rfl (by kernel_rfl) (by kernel_rfl) (by kernel_rfl) (fun _ _ _ h => h) (Or.inl ⟨?_, ?_⟩) hHeld ?_
                    rotate_left
                    · kernel_rfl
                    · (intro w hSw; (try dsimp only at hSw); first | (go_simp; done) | (go_simp; with_reducible rfl))
                    try simp only [List.getElem_toArray, List.getElem_cons_zero, List.getElem_cons_succ, Act.put, List.setIfInBounds_toArray, List.set_cons_zero, List.set_cons_succ]
                    refine wpAnyH_take (i := 8) (v := ?_) rfl (by kernel_rfl) (by kernel_rfl) (by kernel_rfl) (fun _ _ _ h => h) (Or.inl ⟨?_, ?_⟩) hHeld ?_
                    rotate_left
                    · kernel_rfl
                    · (intro w hSw; (try dsimp only at hSw); first | (go_simp; done) | (go_simp; with_reducible rfl))
                    try simp only [List.getElem_toArray, List.getElem_cons_zero, List.getElem_cons_succ, Act.put, List.setIfInBounds_toArray, List.set_cons_zero, List.set_cons_succ]
                    refine wpAnyH_take (i := 9) (v := ?_) rfl (by kernel_rfl) (by kernel_rfl) (by kernel_rfl) (fun _ _ _ h => h) (Or.inl ⟨?_, ?_⟩) hHeld ?_
                    rotate_left
                    · kernel_rfl
                    · (intro w hSw; (try dsimp only at hSw); first | (go_simp; done) | (go_simp; with_reducible rfl))
                    try simp only [List.getElem_toArray, List.getElem_cons_zero, List.getElem_cons_succ, Act.put, List.setIfInBounds_toArray, List.set_cons_zero, List.set_cons_succ]
                    refine wpAnyH_take (i := 10) (v := ?_) rfl (by kernel_rfl) (by kernel_rfl) (by kernel_rfl) (fun _ _ _ h => h) (Or.inl ⟨?_, ?_⟩) hHeld ?_
                    rotate_left
                    · kernel_rfl
                    · (intro w hSw; (try dsimp only at hSw); first | (go_simp; done) | (go_simp; with_reducible rfl))
                    try simp only [List.getElem_toArray, List.getElem_cons_zero, List.getElem_cons_succ, Act.put, List.setIfInBounds_toArray, List.set_cons_zero, List.set_cons_succ]
                    refine wpAnyH_take (i := 11) (v := undef) rfl (by kernel_rfl) (by kernel_rfl) (by kernel_rfl) (fun _ _ _ h => h) (Or.inr ⟨?_, rfl⟩) hHeld ?_
                    · kernel_rfl
                    try simp only [List.getElem_toArray, List.getElem_cons_zero, List.getElem_cons_succ, Act.put, List.setIfInBounds_toArray, List.set_cons_zero, List.set_cons_succ]
                    refine wpAnyH_take (i := 12) (v := undef) rfl (by kernel_rfl) (by kernel_rfl) (by kernel_rfl) (fun _ _ _ h => h) (Or.inr ⟨?_, rfl⟩) hHeld ?_
                    · kernel_rfl
                    try simp only [List.getElem_toArray, List.getElem_cons_zero, List.getElem_cons_succ, Act.put, List.setIfInBounds_toArray, List.set_cons_zero, List.set_cons_succ]
                    refine wpAnyH_take (i := 13) (v := ?_) rfl (by kernel_rfl) (by kernel_rfl) (by kernel_rfl) (fun _ _ _ h => h) (Or.inl ⟨?_, ?_⟩) hHeld ?_
                    rotate_left
                    · kernel_rfl
                    · (intro w hSw; (try dsimp only at hSw); first | (go_simp; done) | (go_simp; with_reducible rfl))
                    try simp only [List.getElem_toArray, List.getElem_cons_zero, List.getElem_cons_succ, Act.put, List.setIfInBounds_toArray, List.set_cons_zero, List.set_cons_succ]
                    refine wpAnyH_ready (rs := [14]) (by kernel_rfl) (by simp) ?_
                    refine AllReadyH.cons rfl (fun K hK => ?_) AllReadyH.nil
                    go_simp
                    refine (LC6.out _ T0.out).mono ?_
                    rintro e w5 ⟨rfl, hb2⟩
                    have T1 := Lib.hid (T0.out.next hb2)
                    clear hb2
                    refine hK.out _ _ ?_ (fun hHeld => ?_)
                    · exact SC5.out _ T1.out
                    clear hK K
                    try simp only [List.getElem_toArray, List.getElem_cons_zero, List.getElem_cons_succ, Act.put, List.setIfInBounds_toArray, List.set_cons_zero, List.set_cons_succ]
                    refine wpAnyH_take (i := 15) (v := ?_) rfl (by kernel_rfl) (by kernel_rfl) (by kernel_rfl) (fun _ _ _ h => h) (Or.inl ⟨?_, ?_⟩) hHeld ?_
                    rotate_left
                    · kernel_rfl
                    · (intro w hSw; (try dsimp only at hSw); first | (go_simp; done) | (go_simp; with_reducible rfl))
                    try simp only [List.getElem_toArray, List.getElem_cons_zero, List.getElem_cons_succ, Act.put, List.setIfInBounds_toArray, List.set_cons_zero, List.set_cons_succ]
                    refine wpAnyH_take (i := 16) (v := ?_) rfl (by kernel_rfl) (by kernel_rfl) (by kernel_rfl) (fun _ _ _ h => h) (Or.inl ⟨?_, ?_⟩) hHeld ?_
                    rotate_left
                    · kernel_rfl
                    · (intro w hSw; (try dsimp only at hSw); first | (go_simp; done) | (go_simp; with_reducible rfl))
                    try simp only [List.getElem_toArray, List.getElem_cons_zero, List.getElem_cons_succ, Act.put, List.setIfInBounds_toArray, List.set_cons_zero, List.set_cons_succ]
                    refine wpAnyH_take (i := 17) (v := ?_) rfl (by kernel_rfl) (by kernel_rfl) (by kernel_rfl) (fun _ _ _ h => h) (Or.inl ⟨?_, ?_⟩) hHeld ?_
                    rotate_left
                    · kernel_rfl
                    · (intro w hSw; (try dsimp only at hSw); first | (go_simp; done) | (go_simp; with_reducible rfl))
                    try simp only [List.getElem_toArray, List.getElem_cons_zero, List.getElem_cons_succ, Act.put, List.setIfInBounds_toArray, List.set_cons_zero, List.set_cons_succ]
                    refine wpAnyH_take (i := 18) (v := ?_) rfl (by kernel_rfl) (by kernel_rfl) (by kernel_rfl) (fun _ _ _ h => h) (Or.inl ⟨?_, ?_⟩) hHeld ?_
                    rotate_left
                    · kernel_rfl
                    · (intro w hSw; (try dsimp only at hSw); first | (go_simp; done) | (go_simp; with_reducible rfl))
                    try simp only [List.getElem_toArray, List.getElem_cons_zero, List.getElem_cons_succ, Act.put, List.setIfInBounds_toArray, List.set_cons_zero, List.set_cons_succ]
                    refine wpAnyH_done (by kernel_rfl) ?_ _
                    go_wp2_with fail
                    go_meet
                    exact ⟨rfl, T1.out⟩
                  · have hr' : decide (0 ≤ rk3) = false := by simpa using hr
                    have LC6 : Hid (∀ V, Fro WI.heap.size WI V → Calls Try.prog 40 #[.slice (some ⟨g, 0, none⟩) L c, .agg #[.int .i64 mf, .int .i64 mt, .int .i64 0], .bool flt] V (Ret (.int .i64 kt) V)) := fun V hb => by have := LC5.out V hb; rw [hr', Bool.false_or] at this; exact this
                    clear hr
                    refine wp_region_held_drew (S := fun V => V.cell? ⟨bx, 0, none⟩ = some (.int .i64 mf) ∧ V.cell? ⟨bx, 1, none⟩ = some (.int .i64 mt) ∧ V.cell? ⟨bx, 2, none⟩ = some (.int .i64 0) ∧ V.cell? ⟨bx, 3, none⟩ = some (.bool one) ∧ V.cell? ⟨bx, 4, none⟩ = some (.bool flt) ∧ V.cell? ⟨g, k * 3 + 2, none⟩ = some (.int .i64 rk3) ∧ V.cell? ⟨g, kt * 3 + 2, none⟩ = some (.int .i64 r')) (by kernel_rfl) ?_ (fun hHeld => ?_)
                    · exact SC5.out _ T0.out
                    refine wpAnyH_take (i := 0) (v := ?_) rfl (by kernel_rfl) (by kernel_rfl) (by kernel_rfl) (fun _ _ _ h => h) (Or.inl ⟨?_, ?_⟩) hHeld ?_
                    rotate_left
                    · kernel_rfl
                    · (intro w hSw; (try dsimp only at hSw); first | (go_simp; done) | (go_simp; with_reducible rfl))
                    try simp only [List.getElem_toArray, List.getElem_cons_zero, List.getElem_cons_succ, Act.put, List.setIfInBounds_toArray, List.set_cons_zero, List.set_cons_succ]
                    refine wpAnyH_take (i := 1) (v := ?_) rfl (by kernel_rfl) (by kernel_rfl) (by kernel_rfl) (fun _ _ _ h => h) (Or.inl ⟨?_, ?_⟩) hHeld ?_
                    rotate_left
                    · kernel_rfl
                    · (intro w hSw; (try dsimp only at hSw); first | (go_simp; done) | (go_simp; with_reducible rfl))
                    try simp only [List.getElem_toArray, List.getElem_cons_zero, List.getElem_cons_succ, Act.put, List.setIfInBounds_toArray, List.set_cons_zero, List.set_cons_succ]
                    refine wpAnyH_take (i := 2) (v := ?_) rfl (by kernel_rfl) (by kernel_rfl) (by kernel_rfl) (fun _ _ _ h => h) (Or.inl ⟨?_, ?_⟩) hHeld ?_
                    rotate_left
                    · kernel_rfl
                    · (intro w hSw; (try dsimp only at hSw); first | (go_simp; done) | (go_simp; with_reducible rfl))
                    try simp only [List.getElem_toArray, List.getElem_cons_zero, List.getElem_cons_succ, Act.put, List.setIfInBounds_toArray, List.set_cons_zero, List.set_cons_succ]
                    refine wpAnyH_take (i := 3) (v := ?_) rfl (by kernel_rfl) (by kernel_rfl) (by kernel_rfl) (fun _ _ _ h => h) (Or.inl ⟨?_, ?_⟩) hHeld ?_
                    rotate_left
                    · kernel_rfl
                    · (intro w hSw; (try dsimp only at hSw); first | (go_simp; done) | (go_simp; with_reducible rfl))
                    try simp only [List.getElem_toArray, List.getElem_cons_zero, List.getElem_cons_succ, Act.put, List.setIfInBounds_toArray, List.set_cons_zero, List.set_cons_succ]
                    refine wpAnyH_take (i := 4) (v := ?_) rfl (by kernel_rfl) (by kernel_rfl) (by kernel_rfl) (fun _ _ _ h => h) (Or.inl ⟨?_, ?_⟩) hHeld ?_
                    rotate_left
                    · kernel_rfl
                    · (intro w hSw; (try dsimp only at hSw); first | (go_simp; done) | (go_simp; with_reducible rfl))
                    try simp only [List.getElem_toArray, List.getElem_cons_zero, List.getElem_cons_succ, Act.put, List.setIfInBounds_toArray, List.set_cons_zero, List.set_cons_succ]
                    refine wpAnyH_take (i := 5) (v := ?_) rfl (by kernel_rfl) (by kernel_rfl) (by kernel_rfl) (fun _ _ _ h => h) (Or.inl ⟨?_, ?_⟩) hHeld ?_
                    rotate_left
                    · kernel_rfl
                    · (intro w hSw; (try dsimp only at hSw); first | (go_simp; done) | (go_simp; with_reducible rfl))
                    try simp only [List.getElem_toArray, List.getElem_cons_zero, List.getElem_cons_succ, Act.put, List.setIfInBounds_toArray, List.set_cons_zero, List.set_cons_succ]
                    refine wpAnyH_take (i := 6) (v := ?_) rfl (by kernel_rfl) (by kernel_rfl) (by kernel_rfl) (fun _ _ _ h => h) (Or.inl ⟨?_, ?_⟩) hHeld ?_
                    rotate_left
                    · kernel_rfl
                    · (intro w hSw; (try dsimp only at hSw); first | (go_simp; done) | (go_simp; with_reducible rfl))
                    try simp only [List.getElem_toArray, List.getElem_cons_zero, List.getElem_cons_succ, Act.put, List.setIfInBounds_toArray, List.set_cons_zero, List.set_cons_succ]
                    refine wpAnyH_take (i := 7) (v := ?_) rfl (by kernel_rfl) (by kernel_rfl) (by kernel_rfl) (fun _ _ _ h => h) (Or.inl ⟨?_, ?_⟩) hHeld ?_
                    rotate_left
                    · kernel_rfl
                    · (intro w hSw; (try dsimp only at hSw); first | (go_simp; done) | (go_simp; with_reducible rfl))
                    try simp only [List.getElem_toArray, List.getElem_cons_zero, List.getElem_cons_succ, Act.put, List.setIfInBounds_toArray, List.set_cons_zero, List.set_cons_succ]
                    refine wpAnyH_take (i := 8) (v := ?_) rfl (by kernel_rfl) (by kernel_rfl) (by kernel_rfl) (fun _ _ _ h => h) (Or.inl ⟨?_, ?_⟩) hHeld ?_
                    rotate_left
                    · kernel_rfl
                    · (intro w hSw; (try dsimp only at hSw); first | (go_simp; done) | (go_simp; with_reducible rfl))
                    try simp only [List.getElem_toArray, List.getElem_cons_zero, List.getElem_cons_succ, Act.put, List.setIfInBounds_toArray, List.set_cons_zero, List.set_cons_succ]
                    refine wpAnyH_take (i := 9) (v := ?_) rfl (by kernel_rfl) (by kernel_rfl) (by kernel_rfl) (fun _ _ _ h => h) (Or.inl ⟨?_, ?_⟩) hHeld ?_
                    rotate_left
                    · kernel_rfl
                    · (intro w hSw; (try dsimp only at hSw); first | (go_simp; done) | (go_simp; with_reducible rfl))
                    try simp only [List.getElem_toArray, List.getElem_cons_zero, List.getElem_cons_succ, Act.put, List.setIfInBounds_toArray, List.set_cons_zero, List.set_cons_succ]
                    refine wpAnyH_take (i := 10) (v := ?_) rfl (by kernel_rfl) (by kernel_rfl) (by kernel_rfl) (fun _ _ _ h => h) (Or.inl ⟨?_, ?_⟩) hHeld ?_
                    rotate_left
                    · kernel_rfl
                    · (intro w hSw; (try dsimp only at hSw); first | (go_simp; done) | (go_simp; with_reducible rfl))
                    try simp only [List.getElem_toArray, List.getElem_cons_zero, List.getElem_cons_succ, Act.put, List.setIfInBounds_toArray, List.set_cons_zero, List.set_cons_succ]
                    refine wpAnyH_take (i := 11) (v := ?_) rfl (by kernel_rfl) (by kernel_rfl) (by kernel_rfl) (fun _ _ _ h => h) (Or.inl ⟨?_, ?_⟩) hHeld ?_
                    rotate_left
                    · kernel_rfl
                    · (intro w hSw; (try dsimp only at hSw); first | (go_simp; done) | (go_simp; with_reducible rfl))
                    try simp only [List.getElem_toArray, List.getElem_cons_zero, List.getElem_cons_succ, Act.put, List.setIfInBounds_toArray, List.set_cons_zero, List.set_cons_succ]
                    refine wpAnyH_take (i := 12) (v := ?_) rfl (by kernel_rfl) (by kernel_rfl) (by kernel_rfl) (fun _ _ _ h => h) (Or.inl ⟨?_, ?_⟩) hHeld ?_
                    rotate_left
                    · kernel_rfl
                    · (intro w hSw; (try dsimp only at hSw); first | (go_simp; done) | (go_simp; with_reducible rfl))
                    try simp only [List.getElem_toArray, List.getElem_cons_zero, List.getElem_cons_succ, Act.put, List.setIfInBounds_toArray, List.set_cons_zero, List.set_cons_succ]
                    refine wpAnyH_take (i := 13) (v := ?_) rfl (by kernel_rfl) (by kernel_rfl) (by kernel_rfl) (fun _ _ _ h => h) (Or.inl ⟨?_, ?_⟩) hHeld ?_
                    rotate_left
                    · kernel_rfl
                    · (intro w hSw; (try dsimp only at hSw); first | (go_simp; done) | (go_simp; with_reducible rfl))
                    try simp only [List.getElem_toArray, List.getElem_cons_zero, List.getElem_cons_succ, Act.put, List.setIfInBounds_toArray, List.set_cons_zero, List.set_cons_succ]
                    refine wpAnyH_ready (rs := [14]) (by kernel_rfl) (by simp) ?_
                    refine AllReadyH.cons rfl (fun K hK => ?_) AllReadyH.nil
                    go_simp
                    refine (LC6.out _ T0.out).mono ?_
                    rintro e w5 ⟨rfl, hb2⟩
                    have T1 := Lib.hid (T0.out.next hb2)
                    clear hb2
                    refine hK.out _ _ ?_ (fun hHeld => ?_)
                    · exact SC5.out _ T1.out
                    clear hK K
                    try simp only [List.getElem_toArray, List.getElem_cons_zero, List.getElem_cons_succ, Act.put, List.setIfInBounds_toArray, List.set_cons_zero, List.set_cons_succ]
                    refine wpAnyH_take (i := 15) (v := ?_) rfl (by kernel_rfl) (by kernel_rfl) (by kernel_rfl) (fun _ _ _ h => h) (Or.inl ⟨?_, ?_⟩) hHeld ?_
                    rotate_left
                    · kernel_rfl
                    · (intro w hSw; (try dsimp only at hSw); first | (go_simp; done) | (go_simp; with_reducible rfl))
                    try simp only [List.getElem_toArray, List.getElem_cons_zero, List.getElem_cons_succ, Act.put, List.setIfInBounds_toArray, List.set_cons_zero, List.set_cons_succ]
                    refine wpAnyH_take (i := 16) (v := ?_) rfl (by kernel_rfl) (by kernel_rfl) (by kernel_rfl) (fun _ _ _ h => h) (Or.inl ⟨?_, ?_⟩) hHeld ?_
                    rotate_left
                    · kernel_rfl
                    · (intro w hSw; (try dsimp only at hSw); first | (go_simp; done) | (go_simp; with_reducible rfl))
                    try simp only [List.getElem_toArray, List.getElem_cons_zero, List.getElem_cons_succ, Act.put, List.setIfInBounds_toArray, List.set_cons_zero, List.set_cons_succ]
                    refine wpAnyH_take (i := 17) (v := ?_) rfl (by kernel_rfl) (by kernel_rfl) (by kernel_rfl) (fun _ _ _ h => h) (Or.inl ⟨?_, ?_⟩) hHeld ?_
                    rotate_left
                    · kernel_rfl
                    · (intro w hSw; (try dsimp only at hSw); first | (go_simp; done) | (go_simp; with_reducible rfl))
                    try simp only [List.getElem_toArray, List.getElem_cons_zero, List.getElem_cons_succ, Act.put, List.setIfInBounds_toArray, List.set_cons_zero, List.set_cons_succ]
                    refine wpAnyH_take (i := 18) (v := ?_) rfl (by kernel_rfl) (by kernel_rfl) (by kernel_rfl) (fun _ _ _ h => h) (Or.inl ⟨?_, ?_⟩) hHeld ?_
                    rotate_left
                    · kernel_rfl
                    · (intro w hSw; (try dsimp only at hSw); first | (go_simp; done) | (go_simp; with_reducible rfl))
                    try simp only [List.getElem_toArray, List.getElem_cons_zero, List.getElem_cons_succ, Act.put, List.setIfInBounds_toArray, List.set_cons_zero, List.set_cons_succ]
                    refine wpAnyH_done (by kernel_rfl) ?_ _
                    go_wp2_with fail
                    go_meet
                    exact ⟨rfl, T1.out⟩
                case rest =>
                  obtain ⟨rfl, RC⟩ := hcut
                  have O5 : Hid (OwnP W.heap.size l3 (.slice (some ⟨g, 0, none⟩) L c) wc) := OX.out.below RC.out.b (Nat.le_refl _)
                  have M5 : Hid (OwnM wr.heap.size ms (.slice (some ⟨bm, om, none⟩) ms.length cM) wc) := MX.out.below RC.out.b (Nat.le_refl _)
                  have R5 : Hid (Fro W.heap.size W wc) := RX.out.next RC.out.b
                  have Z5 : Hid (w3.heap.size ≤ wc.heap.size) := Nat.le_trans ZX.out RC.out.z
                  have p5 : wc.cell? ⟨g, k * 3 + 2, none⟩ = some (.int .i64 rk3) := old_cell RC.out.b PX.out GX.out
                  have x3 : wc.cell? ⟨bx, 3, none⟩ = some (.bool one) := (X0.out.below RC.out.b).c 3 _ rfl
                  have x4 : wc.cell? ⟨bx, 4, none⟩ = some (.bool flt) := (X0.out.below RC.out.b).c 4 _ rfl
                  have FZ : wc.frozen? ⟨g, k * 3 + 2, none⟩ = false := by
                    have h := O5.out
                    unfold OwnP Own at h
                    rw [← LJ.out.1] at h
                    exact World.ownsRow.frozenAt h _
                  have HIT : Hid (0 ≤ r' ↔ (decide (0 ≤ rk3) || flt) = true) := by
                    obtain ⟨y, h1, h2, _⟩ := lookV_eq.1 HQ.out
                    rw [HPT.out] at h1; cases h1
                    exact h2.2.2
                  have br := (RIJ.out.in_ _ (List.mem_of_getElem? HPT.out)).2
                  have bk := (RIJ.out.in_ _ (List.mem_of_getElem? LJ.out.2)).2
                  simp only at br bk
                  obtain ⟨br0, br1⟩ := br
                  obtain ⟨bk0, bk1⟩ := bk
                  have bb0 := RIJ.out.b0
                  have bb1 := RIJ.out.b1
                  have hmem : Hid ((⟨mf, mt, one, flt⟩ : Mv) ∈ movesV evs ed 1 f s ed) := List.mem_of_getElem? HM.out
                  have gW : Hid (W.heap.size ≤ g) := hg
                  clear OX MX RX ZX PX GX X0 T0 SC5 LC5 hbt
                  by_cases hneg : rk3 < 0
                  · have hng : decide (0 ≤ rk3) = false := by simp; omega
                    cases flt with
                    | true =>
                      have PN : Hid (b3 = false → Pass evs ed (max bound3 (r' + 1)) k (j + 1) l3) := fun hb => ((SPJ.out.2.2 hb).mono (Int.le_max_left _ _)).add LJ.out.2 HM.out (mvOk.of_hit rfl HQ.out HPT.out (fun _ _ => by simp only; omega) (fun h => by simp only at h; omega) (fun h => by simp only at h; omega))
                      have RN : Hid (Rise evs ed n (max bound3 (r' + 1)) l3) := RIJ.out.bound (List.mem_of_getElem? LJ.out.2) hneg hmem.out rfl (by have := HQ.out; rw [Bool.or_true] at this; exact this) HPT.out
                      clear HIT
                      go_wp2
                      go_roundw
                      case rel => exact ⟨j + 1, l3, max bound3 (r' + 1), b3, rk3, by first | rfl | go_num, rfl, by go_num, by omega, R5.out, Z5.out, LJ.out, O5.out, M5.out, RN.out, SPJ.out.1, SPJ.out.2.1, PN.out⟩
                      case measure => simp [intOf]; omega
                    | false =>
                      have PN : Hid (b3 = false → Pass evs ed bound3 k (j + 1) l3) := fun hb => (SPJ.out.2.2 hb).add LJ.out.2 HM.out (mvOk.of_hit rfl HQ.out HPT.out (fun _ h => by cases h) (fun h => by simp only at h; omega) (fun h => by simp only at h; omega))
                      clear HIT
                      go_wp2
                      go_roundw
                      case rel => exact ⟨j + 1, l3, bound3, b3, rk3, rfl, rfl, by go_num, by omega, R5.out, Z5.out, LJ.out, O5.out, M5.out, RIJ.out, SPJ.out.1, SPJ.out.2.1, PN.out⟩
                      case measure => simp [intOf]; omega
                  · obtain ⟨q, hq⟩ : ∃ q, q = (if one = true then r' + 1 else r') := ⟨_, rfl⟩
                    have QE := Lib.hid hq
                    have bq : r' ≤ q ∧ q ≤ r' + 1 := by rw [hq]; split <;> omega
                    obtain ⟨bq0, bq1⟩ := bq
                    have hneg' : decide (rk3 < 0) = false := by simp; omega
                    clear HIT hq
                    go_upto_if 118 with fail
                    go_cut [19] (fun v wx => v = .int .i64 q ∧ wx = wc)
                    case first =>
                      cases one
                      · go_wp2
                        go_meet
                        exact ⟨by rw [QE.out]; rfl, rfl⟩
                      · go_wp2
                        go_meet
                        exact ⟨by rw [QE.out]; rfl, rfl⟩
                    case rest =>
                      obtain ⟨rfl, rfl⟩ := hcut
                      by_cases hup : rk3 < q
                      · have O6 : Hid (OwnP W.heap.size (l3.set k ⟨f, s, q⟩) (.slice (some ⟨g, 0, none⟩) L c) (wc.setCell ⟨g, k * 3 + 2, none⟩ (.int .i64 q))) := OwnP.setL O5.out LJ.out.1 q LJ.out.2
                        have M6 : Hid (OwnM wr.heap.size ms (.slice (some ⟨bm, om, none⟩) ms.length cM) (wc.setCell ⟨g, k * 3 + 2, none⟩ (.int .i64 q))) := ownsRow_setCell_below M5.out (a := ⟨g, k * 3 + 2, none⟩) hgz _
                        have R6 : Hid (Fro W.heap.size W (wc.setCell ⟨g, k * 3 + 2, none⟩ (.int .i64 q))) := R5.out.setCell gW.out _
                        have Z6 : Hid (w3.heap.size ≤ (wc.setCell ⟨g, k * 3 + 2, none⟩ (.int .i64 q)).heap.size) := by rw [Hid, World.size_setCell]; exact Z5.out
                        by_cases hbig : 60 < q
                        · go_wp2
                          refine bodyPost_ret (v := .tuple #[.slice none 0 0, .int .i64 0, .bool false]) (by simp [results, Try.results13, go_sem, *]) rfl ?_
                          exact ⟨_, _, false, rfl, (W0.out.trans (R6.out.mono W0.out.z)).b, fun h => by cases h⟩
                        · have RN : Hid (Rise evs ed n bound3 (l3.set k ⟨f, s, q⟩)) := RIJ.out.raise LJ.out.2 (by omega) hup (by omega)
                          have SN : Hid (slack (l3.set k ⟨f, s, q⟩) < slack l') := Nat.lt_of_lt_of_le (slack_set LJ.out.2 hup (by omega)) SPJ.out.1
                          have LN : Hid ((l3.set k ⟨f, s, q⟩).length = L ∧ (l3.set k ⟨f, s, q⟩)[k]? = some ⟨f, s, q⟩) := ⟨by rw [List.length_set]; exact LJ.out.1, by rw [get_set _ LJ.out.2, if_pos rfl]⟩
                          go_wp2
                          go_roundw
                          case rel => exact ⟨j + 1, l3.set k ⟨f, s, q⟩, bound3, true, q, rfl, rfl, by go_num, by omega, R6.out, Z6.out, LN.out, O6.out, M6.out, RN.out, Nat.le_of_lt SN.out, fun _ => SN.out, fun h => by cases h⟩
                          case measure => simp [intOf]; omega
                      · have PN : Hid (b3 = false → Pass evs ed bound3 k (j + 1) l3) := fun hb => (SPJ.out.2.2 hb).add LJ.out.2 HM.out (mvOk.of_hit rfl HQ.out HPT.out (fun h => by simp only at h; omega) (fun _ ho => by simp only at ho ⊢; have := QE.out; rw [ho] at this; simp only [if_true] at this; omega) (fun _ => by simp only; omega))
                        go_wp2
                        go_roundw
                        case rel => exact ⟨j + 1, l3, bound3, b3, rk3, rfl, rfl, by go_num, by omega, R5.out, Z5.out, LJ.out, O5.out, M5.out, RIJ.out, SPJ.out.1, SPJ.out.2.1, PN.out⟩
                        case measure => simp [intOf]; omega
              · obtain rfl : j = ms.length := by omega
                have PN : Hid (b3 = false → Pass evs ed bound3 (k + 1) 0 l3) := fun h => (SPJ.out.2.2 h).next LJ.out.2 (by rw [← ME.out]; exact Nat.le_refl _)
                go_wp2
                go_roundw
                case rel => exact ⟨k + 1, l3, bound3, b3, rfl, rfl, by go_num, by omega, RJ.out, LJ.out.1, OJ.out, RIJ.out, SPJ.out.1, SPJ.out.2.1, PN.out⟩
                case measure => simp [intOf]; omega
          · obtain rfl : k = L := by omega
            have GH : Hid (b = true → slack l2 < slack l') := SP.out.2.1
            cases b
            · go_wp2
              go_roundg 0
              case rel => exact ⟨l2, bound2, false, rfl, rfl, R.out, HL.out, O.out, RI.out, fun h => by simp at h, fun _ => SP.out.2.2 (by trivial)⟩
              case measure => exact Nat.lt_of_le_of_lt (Nat.zero_le _) S0.out
            · go_wp2
              go_roundg (slack l')
              case rel => exact ⟨l2, bound2, true, rfl, rfl, R.out, HL.out, O.out, RI.out, fun _ => GH.out (by trivial), fun h => by simp at h⟩
              case measure => exact S0.out
end Go.Proofs.Ytkbmenpggiojeaa
