/-
  moves: the moves from a pair.
-/
import Derived.Test.YtkbmenpggiojeaaGa
namespace Go.Proofs.Ytkbmenpggiojeaa
open Go.RowKit
set_option linter.unusedSimpArgs false
set_option linter.unusedVariables false
set_option maxRecDepth 100000

theorem EvsAt.get5 {w : World} {A : Option Addr} {l : List Ev} (h : EvsAt w A l) {k : Nat} {x : Ev} (hx : l[k]? = some x) : ∃ b off, A = some ⟨b, off, none⟩ ∧ b < w.heap.size ∧
    w.cell? ⟨b, off + k * 5, none⟩ = some (.string x.name) ∧ w.cell? ⟨b, off + k * 5 + 1, none⟩ = some (.bool x.ctl) ∧ w.cell? ⟨b, off + k * 5 + 2, none⟩ = some (.bool x.obs) ∧ w.cell? ⟨b, off + k * 5 + 3, none⟩ = some (.bool x.frc) ∧ w.cell? ⟨b, off + k * 5 + 4, none⟩ = some (.int .i64 x.fault) := by
  obtain ⟨b, off, y, vs, hA, hlt, hy, _, hE, hc⟩ := SlAt.at h (List.getElem?_eq_some_iff.1 hx).1
  obtain rfl : vs = Ev.cells y := hE
  rw [hx] at hy; cases hy
  exact ⟨b, off, hA, hlt, by simpa using hc 0 _ rfl, hc 1 _ rfl, hc 2 _ rfl, hc 3 _ rfl, hc 4 _ rfl⟩

def NotIn (v : Value) (b : Nat) : Prop := v.ownBlock ≠ some b
theorem Own.notIn {α : Type} {enc : α → List Value} {k T B : Nat} {l : List α} {v : Value} {w : World} (h : Own enc k T B l v w) {b : Nat} (hb : w.heap.size ≤ b) : NotIn v b := fun e => by have := (h.lt _ e).2; omega
theorem NotIn.push {v v' : Value} {b g : Nat} (h : NotIn v b) (hat : v'.ownBlock = v.ownBlock ∨ v'.ownBlock = some g) (hg : b < g) : NotIn v' b := by
  rcases hat with e | e
  · exact fun h' => h (e ▸ h')
  · intro h'; rw [e] at h'; cases h'; omega
theorem NotIn.grown {v : Value} {b : Nat} {l : List Value} {w w' : World} (h : NotIn v b) (hg : w.grownBy w' v.ownBlock) (hh : HasAt b l w) : HasAt b l w' := hh.grown hg (fun e => h e.symm)

structure Mv where
  fst : Int
  snd : Int
  one : Bool
  flt : Bool
deriving DecidableEq
def Mv.cells (m : Mv) : List Value := [.int .i64 m.fst, .int .i64 m.snd, .int .i64 0, .bool m.one, .bool m.flt]
def MvE : Reading Mv := fun _ x vs => vs = Mv.cells x
theorem MvE.stays : Stays MvE := fun _ _ _ _ _ h => h
abbrev OwnM := Own Mv.cells 5 108
theorem mvInfo : (Try.prog.info? 108).map (fun i => (i.zero, i.size, i.bytes)) = some (some (.agg #[.int .i64 0, .int .i64 0, .int .i64 0, .bool false, .bool false]), 5, 32) := by kernel_rfl
theorem mvOne (x : Mv) : ∀ u ∈ Mv.cells x, u.oneCell' = true := fun u hu => by simp [Mv.cells] at hu; rcases hu with rfl | rfl | rfl | rfl | rfl <;> rfl

def mv1 (evs : List Ev) (cl f s : Int) (y : Ed) : List Mv := if (evAt evs y.ev).obs = false ∧ y.src = f then [⟨y.dst, s, true, (evAt evs y.ev).fault == cl⟩] else []
def mv2 (evs : List Ev) (cl f s : Int) (y : Ed) : List Mv := if (evAt evs y.ev).obs = false ∧ y.src = s ∧ (evAt evs y.ev).fault ≠ cl then [⟨f, y.dst, false, false⟩] else []
def mv3 (evs : List Ev) (ed : List Ed) (f s : Int) (y : Ed) : List Mv := if (evAt evs y.ev).obs = true ∧ y.src = f ∧ 0 ≤ nextV ed s y.ev then [⟨y.dst, nextV ed s y.ev, true, false⟩] else []
def movesE (evs : List Ev) (ed : List Ed) (cl f s : Int) (y : Ed) : List Mv := mv1 evs cl f s y ++ mv2 evs cl f s y ++ mv3 evs ed f s y
/-- The moves from a pair. -/
def movesV (evs : List Ev) (ed : List Ed) (cl f s : Int) (l : List Ed) : List Mv := l.flatMap (movesE evs ed cl f s)
theorem mv1_len (evs : List Ev) (cl f s : Int) (y : Ed) : (mv1 evs cl f s y).length ≤ 1 := by unfold mv1; split <;> simp
theorem mv2_len (evs : List Ev) (cl f s : Int) (y : Ed) : (mv2 evs cl f s y).length ≤ 1 := by unfold mv2; split <;> simp
theorem mv3_len (evs : List Ev) (ed : List Ed) (f s : Int) (y : Ed) : (mv3 evs ed f s y).length ≤ 1 := by unfold mv3; split <;> simp
theorem movesV_snoc (evs : List Ev) (ed : List Ed) (cl f s : Int) (l : List Ed) (y : Ed) : movesV evs ed cl f s (l ++ [y]) = movesV evs ed cl f s l ++ mv1 evs cl f s y ++ mv2 evs cl f s y ++ mv3 evs ed f s y := by
  simp [movesV, movesE, List.append_assoc]
theorem movesV_len (evs : List Ev) (ed : List Ed) (cl f s : Int) (l : List Ed) : (movesV evs ed cl f s l).length ≤ 3 * l.length := by
  induction l with
  | nil => simp [movesV]
  | cons y r ih =>
    have h1 := mv1_len evs cl f s y
    have h2 := mv2_len evs cl f s y
    have h3 := mv3_len evs ed f s y
    simp only [movesV, List.flatMap_cons, List.length_append, movesE, List.length_cons] at *
    omega

/-- What moves gives. -/
def GivesM (l : List Mv) (w : World) (e : Ending) (w' : World) : Prop := ∃ A c, e = .returned (.slice A l.length c) ∧ Hid (OwnM w.heap.size l (.slice A l.length c) w') ∧ Below w.heap.size w w'

set_option maxHeartbeats 4000000 in
theorem moves_c (AE : Option Addr) (cE : Nat) (evs : List Ev) (au : Au) (p : AuP) (cl f s r : Int) (w : World) (hE : EvsAt w AE evs) (hp : Au.At w au p) (lev : evs.length ≤ 140737488355328) (led : au.ed.length ≤ 100000)
    (hin : ∀ y, y ∈ au.ed → 0 ≤ y.ev ∧ y.ev < evs.length) :
    Calls Try.prog 41 #[.slice AE evs.length cE, au.val p, .int .i64 cl, .agg #[.int .i64 f, .int .i64 s, .int .i64 r]] w (GivesM (movesV evs au.ed cl f s au.ed) w) := by
  have R0 : Hid (Fro (w.heap.size) w w) := Fro.here w
  have HE := Lib.hid hE
  have HP := Lib.hid hp
  have HIN := Lib.hid hin
  clear hE hp hin
  obtain ⟨al, m, mr, ed⟩ := au
  obtain ⟨A1, c1, A2, c2, A3, c3⟩ := p
  dsimp only [Au.val] at *
  have D0 : Hid (HasAt w.heap.size [.slice A1 al.length c1, .int .i64 m, .slice A2 mr.length c2, .slice A3 ed.length c3] ((w.alloc (.cells #[.slice A1 al.length c1, .int .i64 m, .slice A2 mr.length c2, .slice A3 ed.length c3] 39)).alloc (.cells #[.int .i64 f, .int .i64 s, .int .i64 r] 46))) := (HasAt.new w _ _ rfl).alloc _
  have E0 : Hid (HasAt (w.heap.size + 1) [.int .i64 f, .int .i64 s, .int .i64 r] ((w.alloc (.cells #[.slice A1 al.length c1, .int .i64 m, .slice A2 mr.length c2, .slice A3 ed.length c3] 39)).alloc (.cells #[.int .i64 f, .int .i64 s, .int .i64 r] 46))) := HasAt.new _ _ _ (by simp)
  have W0 : Hid (Fro w.heap.size w ((w.alloc (.cells #[.slice A1 al.length c1, .int .i64 m, .slice A2 mr.length c2, .slice A3 ed.length c3] 39)).alloc (.cells #[.int .i64 f, .int .i64 s, .int .i64 r] 46))) := (R0.out.alloc _).alloc _
  clear R0
  go_enter Try.func41, Try.ntmps41
  have q3 := D0.out.c 3 _ rfl
  go_wp2_with fail
  generalize hW : ((w.alloc (.cells #[.slice A1 al.length c1, .int .i64 m, .slice A2 mr.length c2, .slice A3 ed.length c3] 39)).alloc (.cells #[.int .i64 f, .int .i64 s, .int .i64 r] 46)) = W at *
  clear hW q3
  go_loopw [9, 17] (fun v i wr => ∃ k : Nat, k ≤ ed.length ∧ i = .int .i64 k ∧ Hid (Fro W.heap.size W wr) ∧ Hid (OwnM W.heap.size (movesV evs ed cl f s (ed.take k)) v wr)) (fun _ i _ => ed.length - (intOf i).toNat)
  case atStart => exact ⟨0, by omega, rfl, Fro.here W, Own.nil _⟩
  case round =>
    obtain ⟨k, hk, rfl, R, HV⟩ := hrel
    by_cases hlt : k < ed.length
    · have RW := Lib.hid (W0.out.trans (R.out.mono W0.out.z))
      obtain ⟨b, off, x, rfl, hbl, hx, hc0, hc1, hc2⟩ := EdsAt.at (HP.out.below RW.out.b).ed hlt
      have HT := Lib.hid (show ed.take (k + 1) = ed.take k ++ [x] by rw [List.take_add_one, hx]; rfl)
      obtain ⟨src, ev, dst⟩ := x
      dsimp only at hc0 hc1 hc2
      have hine := HIN.out _ (List.mem_of_getElem? hx)
      dsimp only at hine
      obtain ⟨t, rfl⟩ := Int.eq_ofNat_of_zero_le hine.1
      have ht : t < evs.length := by omega
      obtain ⟨z, hz⟩ : ∃ z, evs[t]? = some z := ⟨_, List.getElem?_eq_getElem ht⟩
      have HZ := Lib.hid (evAt_get hz)
      obtain ⟨bz, oz, hAE, hzl, g0, g1, g2, g3, g4⟩ := EvsAt.get5 (HE.out.below EvE.stays RW.out.b) hz
      subst hAE
      obtain ⟨nm, ctl, obs, frc, flt⟩ := z
      dsimp only at g0 g1 g2 g3 g4
      clear hz hx
      have D1 := Lib.hid (D0.out.below R.out.b)
      have E1 := Lib.hid (E0.out.below R.out.b)
      have bx0 : Hid (HasAt wr.heap.size [.int .i64 src, .int .i64 t, .int .i64 dst] ((wr.alloc (.cells #[.int .i64 src, .int .i64 t, .int .i64 dst] 73)).alloc (.cells #[.string nm, .bool ctl, .bool obs, .bool frc, .int .i64 flt] 116))) := (HasAt.new wr _ _ rfl).alloc _
      have bx1 : Hid (HasAt (wr.heap.size + 1) [.string nm, .bool ctl, .bool obs, .bool frc, .int .i64 flt] ((wr.alloc (.cells #[.int .i64 src, .int .i64 t, .int .i64 dst] 73)).alloc (.cells #[.string nm, .bool ctl, .bool obs, .bool frc, .int .i64 flt] 116))) := HasAt.new _ _ _ (by simp)
      have R2 := Lib.hid ((R.out.alloc (.cells #[.int .i64 src, .int .i64 t, .int .i64 dst] 73)).alloc (.cells #[.string nm, .bool ctl, .bool obs, .bool frc, .int .i64 flt] 116))
      have V2 := Lib.hid ((HV.out.alloc (.cells #[.int .i64 src, .int .i64 t, .int .i64 dst] 73)).alloc (.cells #[.string nm, .bool ctl, .bool obs, .bool frc, .int .i64 flt] 116))
      have N0 := Lib.hid (HV.out.notIn (b := wr.heap.size) (Nat.le_refl _))
      have N1 := Lib.hid (HV.out.notIn (b := wr.heap.size + 1) (Nat.le_succ _))
      have e0 := E1.out.c 0 _ rfl
      have e1 := E1.out.c 1 _ rfl
      have zE := E1.out.z
      have zD := D1.out.z
      have hml := movesV_len evs ed cl f s (ed.take k)
      have hkl : (ed.take k).length ≤ k := List.length_take_le _ _
      cases obs
      · skip
        obtain ⟨b1, hb1⟩ : ∃ b, (src == f) = b := ⟨_, rfl⟩
        go_upto_if 35 with fail
        go_cut [9] (fun vx wx => Hid (Fro W.heap.size W wx) ∧ Hid (HasAt wr.heap.size [.int .i64 src, .int .i64 t, .int .i64 dst] wx) ∧ Hid (HasAt (wr.heap.size + 1) [.string nm, .bool ctl, .bool false, .bool frc, .int .i64 flt] wx) ∧ Hid (OwnM W.heap.size (movesV evs ed cl f s (ed.take k) ++ mv1 evs cl f s ⟨src, t, dst⟩) vx wx) ∧ Hid (NotIn vx wr.heap.size ∧ NotIn vx (wr.heap.size + 1)))
        case first =>
          have M1 : Hid (b1 = true → mv1 evs cl f s ⟨src, t, dst⟩ = [⟨dst, s, true, flt == cl⟩]) := fun h => by
            subst h; simp at hb1; simp [mv1, HZ.out, hb1]
          have M2 : Hid (b1 = false → mv1 evs cl f s ⟨src, t, dst⟩ = []) := fun h => by
            subst h; simp at hb1; simp [mv1, HZ.out, hb1]
          cases b1
          · go_wp2_with fail
            go_meet
            rw [M2.out (by trivial), List.append_nil]
            exact ⟨R2.out, bx0.out, bx1.out, V2.out, N0.out, N1.out⟩
          · go_wp2_with (at_builtin; refine wpList_push rfl _ _ 105 rfl (V2.out.alloc _) Try.underlying105 _ 32 mvInfo rfl (by decide) rfl (⟨dst, s, true, flt == cl⟩ : Mv) (wr.heap.size + 1 + 1) rfl rfl (one_cell _ _ _ _ (by simp)) (mvOne _) (by omega) (by decide) (R2.out.alloc _).z ?_)
            intro A' c' w1 ho hg hat
            have HO := Lib.hid ho
            have HG := Lib.hid hg
            have HA := Lib.hid hat
            clear ho hg hat
            go_wp2_with fail
            go_meet
            rw [M1.out (by trivial)]
            exact ⟨(R2.out.alloc _).push (V2.out.alloc _) HG.out, N0.out.grown HG.out (bx0.out.alloc _), N1.out.grown HG.out (bx1.out.alloc _), HO.out, N0.out.push HA.out (by first | omega | (simp; omega)), N1.out.push HA.out (by first | omega | (simp; omega))⟩
        case rest =>
          obtain ⟨RC, X0, X1, VC, NC⟩ := hcut
          have hl1 := mv1_len evs cl f s ⟨src, t, dst⟩
          have N0 := Lib.hid NC.out.1
          have N1 := Lib.hid NC.out.2
          have EC := Lib.hid (E0.out.below RC.out.b)
          have e0 := EC.out.c 0 _ rfl
          have e1 := EC.out.c 1 _ rfl
          have zE := EC.out.z
          have x0 := X0.out.c 0 _ rfl
          have x2 := X0.out.c 2 _ rfl
          have y2 := X1.out.c 2 _ rfl
          have y4 := X1.out.c 4 _ rfl
          have zx := X1.out.z
          clear hc0 hc1 hc2 g0 g1 g2 g3 g4 bx0 bx1 R2 V2 NC R HV D1 E1
          go_upto_region 8 with fail
          go_cut [64] (fun vx wx => ∃ b2 : Bool, vx = .bool b2 ∧ wx = wc ∧ Hid (b2 = true → mv2 evs cl f s ⟨src, t, dst⟩ = [⟨f, dst, false, false⟩]) ∧ Hid (b2 = false → mv2 evs cl f s ⟨src, t, dst⟩ = []))
          case first =>
            by_cases h2 : src = s
            · have h2' : (src == s) = true := by simpa using h2
              by_cases h3 : flt = cl
              · have h3' : (flt != cl) = false := by simpa using h3
                have M2 : Hid (mv2 evs cl f s ⟨src, t, dst⟩ = []) := by simp [mv2, HZ.out, h3, Hid]
                clear h2 h3
                go_wp2_with fail
                go_meet
                exact ⟨false, rfl, rfl, by simp [Hid], fun _ => M2.out⟩
              · have h3' : (flt != cl) = true := by simpa using h3
                have M1 : Hid (mv2 evs cl f s ⟨src, t, dst⟩ = [⟨f, dst, false, false⟩]) := by simp [mv2, HZ.out, h2, h3, Hid]
                clear h2 h3
                go_wp2_with fail
                go_meet
                exact ⟨true, rfl, rfl, fun _ => M1.out, by simp [Hid]⟩
            · have h2' : (src == s) = false := by simpa using h2
              have M2 : Hid (mv2 evs cl f s ⟨src, t, dst⟩ = []) := by simp [mv2, HZ.out, h2, Hid]
              clear h2
              go_wp2_with fail
              go_meet
              exact ⟨false, rfl, rfl, by simp [Hid], fun _ => M2.out⟩
          case rest =>
          obtain ⟨b2, rfl, rfl, M1, M2⟩ := hcut
          go_upto_if 64 with fail
          go_cut [9] (fun vx wx => Hid (Fro W.heap.size W wx) ∧ Hid (HasAt wr.heap.size [.int .i64 src, .int .i64 t, .int .i64 dst] wx) ∧ Hid (HasAt (wr.heap.size + 1) [.string nm, .bool ctl, .bool false, .bool frc, .int .i64 flt] wx) ∧ Hid (OwnM W.heap.size (movesV evs ed cl f s (ed.take k) ++ mv1 evs cl f s ⟨src, t, dst⟩ ++ mv2 evs cl f s ⟨src, t, dst⟩) vx wx))
          case first =>
            cases b2
            · go_wp2_with fail
              go_meet
              rw [M2.out (by trivial), List.append_nil]
              exact ⟨RC.out, X0.out, X1.out, VC.out⟩
            · go_wp2_with (at_builtin; refine wpList_push rfl _ _ 105 rfl (VC.out.alloc _) Try.underlying105 _ 32 mvInfo rfl (by decide) rfl (⟨f, dst, false, false⟩ : Mv) _ rfl rfl (one_cell _ _ _ _ rfl) (mvOne _) (by simp; omega) (by decide) (RC.out.alloc _).z ?_)
              intro A' c' w1 ho hg hat
              have HO := Lib.hid ho
              have HG := Lib.hid hg
              clear ho hg hat
              go_wp2_with fail
              go_meet
              rw [M1.out (by trivial)]
              exact ⟨(RC.out.alloc _).push (VC.out.alloc _) HG.out, N0.out.grown HG.out (X0.out.alloc _), N1.out.grown HG.out (X1.out.alloc _), by rw [Hid, List.append_assoc]; exact HO.out⟩
          case rest =>
            obtain ⟨RD, Y0, Y1, VD⟩ := hcut
            have M3 : Hid (mv3 evs ed f s ⟨src, t, dst⟩ = []) := by simp [mv3, HZ.out, Hid]
            have hl2 := mv2_len evs cl f s ⟨src, t, dst⟩
            have DD := Lib.hid (D0.out.below RD.out.b)
            have EE := Lib.hid (E0.out.below RD.out.b)
            have d0 := DD.out.c 0 _ rfl
            have d1 := DD.out.c 1 _ rfl
            have d2 := DD.out.c 2 _ rfl
            have d3 := DD.out.c 3 _ rfl
            have e1' := EE.out.c 1 _ rfl
            have zE' := EE.out.z
            have y1 := Y0.out.c 1 _ rfl
            clear e0 e1 zE x0 x2 y2 y4 zx RC X0 X1 VC M1 M2 N0 N1
            go_wp2_with fail
            refine (next_c ⟨al, m, mr, ed⟩ ⟨A1, c1, A2, c2, some ⟨b, off, none⟩, c3⟩ s t wc (HP.out.below (W0.out.trans (RD.out.mono W0.out.z)).b).ed (Nat.le_trans led (by decide))).mono ?_
            rintro e w5 ⟨rfl, hb⟩
            have RE := Lib.hid (RD.out.next hb)
            have VE := Lib.hid (VD.out.below hb (Nat.le_refl _))
            have YE := Lib.hid (Y1.out.below hb)
            have y2 := YE.out.c 2 _ rfl
            clear hb d0 d1 d2 d3 e1' zE' y1
            go_wp2_with fail
            go_roundw
            case rel => exact ⟨k + 1, by omega, by go_num, RE.out, by rw [HT.out, movesV_snoc, M3.out, List.append_nil]; exact VE.out⟩
            case measure => simp [intOf]; omega
      · have M12 : Hid (mv1 evs cl f s ⟨src, t, dst⟩ = [] ∧ mv2 evs cl f s ⟨src, t, dst⟩ = []) := by simp [mv1, mv2, HZ.out, Hid]
        have d0 := D1.out.c 0 _ rfl
        have d1 := D1.out.c 1 _ rfl
        have d2 := D1.out.c 2 _ rfl
        have d3 := D1.out.c 3 _ rfl
        obtain ⟨nx, hnx⟩ : ∃ nx, nx = nextV ed s t := ⟨_, rfl⟩
        have NX := Lib.hid hnx
        clear hnx
        go_wp2_with fail
        refine (next_c ⟨al, m, mr, ed⟩ ⟨A1, c1, A2, c2, some ⟨b, off, none⟩, c3⟩ s t _ (HP.out.below (W0.out.trans (R2.out.mono W0.out.z)).b).ed (Nat.le_trans led (by decide))).mono ?_
        rintro e w5 ⟨rfl, hb⟩
        have RE := Lib.hid (R2.out.next hb)
        have VE := Lib.hid (V2.out.below hb (Nat.le_refl _))
        have X0 := Lib.hid (bx0.out.below hb)
        have X1 := Lib.hid (bx1.out.below hb)
        have EE := Lib.hid (E0.out.below RE.out.b)
        have N0' := N0
        clear hb d0 d1 d2 d3 e0 e1 g0 g1 g2 g3 g4 hc0 hc1 hc2 R2 V2 bx0 bx1
        simp only
        rw [← NX.out]
        have e0 := EE.out.c 0 _ rfl
        have zE' := EE.out.z
        have x0 := X0.out.c 0 _ rfl
        have x2 := X0.out.c 2 _ rfl
        have y2 := X1.out.c 2 _ rfl
        have zx := X1.out.z
        by_cases h1 : src = f
        · have h1' : (src == f) = true := by simpa using h1
          by_cases h2 : 0 ≤ nx
          · have h2' : decide (0 ≤ nx) = true := by simpa using h2
            have M3 : Hid (mv3 evs ed f s ⟨src, t, dst⟩ = [⟨dst, nx, true, false⟩]) := by simp [mv3, HZ.out, Hid, h1, ← NX.out, h2]
            clear h1 h2
            go_wp2_with (at_builtin; refine wpList_push rfl _ _ 105 rfl (VE.out.alloc _) Try.underlying105 _ 32 mvInfo rfl (by decide) rfl (⟨dst, nx, true, false⟩ : Mv) _ rfl rfl (one_cell _ _ _ _ rfl) (mvOne _) (by omega) (by decide) (RE.out.alloc _).z ?_)
            intro A' c' w1 ho hg hat
            have HO := Lib.hid ho
            have HG := Lib.hid hg
            clear ho hg hat
            go_wp2_with fail
            go_roundw
            case rel => exact ⟨k + 1, by omega, by go_num, (RE.out.alloc _).push (VE.out.alloc _) HG.out, by rw [HT.out, movesV_snoc, M12.out.1, M12.out.2, M3.out, List.append_nil, List.append_nil]; exact HO.out⟩
            case measure => simp [intOf]; omega
          · have h2' : decide (0 ≤ nx) = false := by simpa using h2
            have M3 : Hid (mv3 evs ed f s ⟨src, t, dst⟩ = []) := by simp [mv3, HZ.out, Hid, ← NX.out, h2]
            clear h1 h2
            go_wp2_with fail
            go_roundw
            case rel => exact ⟨k + 1, by omega, by go_num, RE.out, by rw [HT.out, movesV_snoc, M12.out.1, M12.out.2, M3.out, List.append_nil, List.append_nil, List.append_nil]; exact VE.out⟩
            case measure => simp [intOf]; omega
        · have h1' : (src == f) = false := by simpa using h1
          have M3 : Hid (mv3 evs ed f s ⟨src, t, dst⟩ = []) := by simp [mv3, HZ.out, Hid, h1]
          clear h1
          go_wp2_with fail
          go_roundw
          case rel => exact ⟨k + 1, by omega, by go_num, RE.out, by rw [HT.out, movesV_snoc, M12.out.1, M12.out.2, M3.out, List.append_nil, List.append_nil, List.append_nil]; exact VE.out⟩
          case measure => simp [intOf]; omega
    · obtain rfl : k = ed.length := by omega
      have HT := Lib.hid (List.take_length (l := ed))
      obtain ⟨A', c', rfl⟩ := HV.out.form
      go_wp2
      go_ret
      exact ⟨A', c', by rw [HT.out]; rfl, by have := HV.out; rw [HT.out] at this; exact Own.base this W0.out.z, (W0.out.trans (R.out.mono W0.out.z)).b⟩
end Go.Proofs.Ytkbmenpggiojeaa
