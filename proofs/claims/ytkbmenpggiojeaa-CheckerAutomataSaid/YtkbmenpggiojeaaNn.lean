/-
  CheckerAutomata: the walk of the law.
-/
import Derived.Test.YtkbmenpggiojeaaNm
import Derived.Test.YtkbmenpggiojeaaNe
import Derived.Test.YtkbmenpggiojeaaMc
import Derived.Deep.CutBlock
import Derived.Deep.DeepCutAuto
namespace Go.Proofs.Ytkbmenpggiojeaa
open Go.RowKit
set_option linter.unusedSimpArgs false
set_option linter.unusedVariables false
set_option maxRecDepth 100000

theorem lhas_quiet (A : Option Addr) (c : Nat) (l : List Int) (x : Int) (w : World) (n : Nat) (h : IntsAt w A l) (hl : l.length ≤ 140737488355328) (b : Bool) (hb : b = true ↔ x ∈ l) :
    Calls Try.prog 26 #[.slice A l.length c, .int .i64 x] (w.drewN n) fun e w'' => e = .returned (.bool b) ∧ ∃ m, w'' = w.drewN m :=
  Calls.quiet_of_same ((lhas_c A c l x (w.drewN n) (h.below IntE.stays ((Below.refl _ _).draws n)) hl).mono fun _ _ ⟨r, h1, h2, h3⟩ => ⟨by rw [h1]; congr 2; rw [Bool.eq_iff_iff, h2, hb], h3.symm⟩)

theorem mem_outOf' {es : List Ed} {i : Nat} {y : Ed} : y ∈ outOf es i ↔ y ∈ es ∧ y.src = (i : Int) := by simp [outOf]
/-- One state's distance is right. -/
def GoodAt (a : Au) (dist : List Int) (i : Nat) : Prop := ∀ d, dist[i]? = some d → d = 0 ∧ (i : Int) ∈ a.mr ∨ 0 < d ∧ ∃ x, x ∈ outOf a.ed i ∧ nearP dist d x
structure GoodAll (a : Au) (dist : List Int) (k : Nat) : Prop where
  l : (dist.length : Int) = a.n
  g : ∀ j, j < k → GoodAt a dist j
theorem nonb_iff {a : Au} {dist : List Int} (hr : a.Right) : NonbOk a dist ↔ GoodAll a dist dist.length := by
  constructor
  · rintro ⟨_, hl, hd⟩
    refine ⟨hl, fun j _ d hj => ?_⟩
    obtain ⟨h0, h1, h2⟩ := hd j d hj
    by_cases e : d = 0
    · exact .inl ⟨e, h1 e⟩
    · exact .inr ⟨by omega, h2 (by omega)⟩
  · rintro ⟨hl, hg⟩
    refine ⟨hr, hl, fun i d hi => ?_⟩
    rcases hg i (List.getElem?_eq_some_iff.1 hi).1 d hi with ⟨h0, h1⟩ | ⟨h0, h1⟩
    · exact ⟨by omega, fun _ => h1, fun h => by omega⟩
    · exact ⟨by omega, fun h => by omega, fun _ => h1⟩
structure BlocksP (a : Au) (dead : List Int) (k m : Nat) : Prop where
  s : setOk dead a.n dead.length
  e : ∀ j y, j < k → a.ed[j]? = some y → y.src ∈ dead → y.dst ∈ dead
  m : ∀ (j : Nat) (i : Int), j < m → dead[j]? = some i → i ∉ a.mr
theorem block_iff {a : Au} {wd dead : List Int} (hr : a.Right) : BlockOk a wd dead ↔ BlocksP a dead a.ed.length dead.length ∧ 0 < a.n ∧ 0 ≤ runV a.ed 0 wd ∧ runV a.ed 0 wd ∈ dead := by
  have h0 := hr.n0
  have hrun := hr.run wd 0 (by omega)
  constructor
  · rintro ⟨_, hs, hn, h1, h2, h3⟩
    rw [← hrun] at h3
    refine ⟨⟨hs, fun j y _ hy hm => ?_, fun j i _ hi hm => h2 ⟨i, List.mem_of_getElem? hi, hm⟩⟩, by omega, ?_, h3⟩
    · by_cases e : y.dst ∈ dead
      · exact e
      · exact absurd ⟨y, List.mem_of_getElem? hy, hm, e⟩ h1
    · obtain ⟨t, ht, he⟩ := List.mem_iff_getElem.1 h3
      have := (hs t _ ht (List.getElem?_eq_getElem ht)).1
      omega
  · rintro ⟨⟨hs, he, hm⟩, hn, h1, h2⟩
    refine ⟨hr, hs, by omega, fun ⟨x, hx, h3, h4⟩ => ?_, fun ⟨i, hi, h3⟩ => ?_, by rw [← hrun]; exact h2⟩
    · obtain ⟨t, ht, rfl⟩ := List.mem_iff_getElem.1 hx
      exact h4 (he t _ ht (List.getElem?_eq_getElem ht) h3)
    · obtain ⟨t, ht, rfl⟩ := List.mem_iff_getElem.1 hi
      exact hm t _ ht (List.getElem?_eq_getElem ht) h3
def nearTo (dist : List Int) (i : Nat) (k : Nat) (ed : List Ed) : Prop := ∃ j y d, j < k ∧ ed[j]? = some y ∧ y.src = (i : Int) ∧ dist[i]? = some d ∧ nearP dist d y
theorem nearTo_iff {dist : List Int} {i : Nat} {ed : List Ed} {d : Int} (hd : dist[i]? = some d) : nearTo dist i ed.length ed ↔ ∃ x, x ∈ outOf ed i ∧ nearP dist d x := by
  constructor
  · rintro ⟨j, y, d', _, hy, hs, h1, h2⟩
    rw [hd] at h1; cases h1
    exact ⟨y, mem_outOf'.2 ⟨List.mem_of_getElem? hy, hs⟩, h2⟩
  · rintro ⟨x, hx, h2⟩
    obtain ⟨hm, hs⟩ := mem_outOf'.1 hx
    obtain ⟨t, ht, rfl⟩ := List.mem_iff_getElem.1 hm
    exact ⟨t, _, d, ht, List.getElem?_eq_getElem ht, hs, hd, h2⟩
theorem nearTo_snoc {dist : List Int} {i k : Nat} {ed : List Ed} {y : Ed} {d : Int} (hy : ed[k]? = some y) (hd : dist[i]? = some d) : nearTo dist i (k + 1) ed ↔ nearTo dist i k ed ∨ y.src = (i : Int) ∧ nearP dist d y := by
  constructor
  · rintro ⟨j, z, d', hj, hz, hs, h1, h2⟩
    rw [hd] at h1; cases h1
    by_cases e : j = k
    · subst e; rw [hy] at hz; cases hz; exact .inr ⟨hs, h2⟩
    · exact .inl ⟨j, z, d, by omega, hz, hs, hd, h2⟩
  · rintro (⟨j, z, d', hj, h⟩ | ⟨hs, h2⟩)
    · exact ⟨j, z, d', by omega, h⟩
    · exact ⟨k, y, d, by omega, hy, hs, hd, h2⟩
/-- The places where the law's arguments lie. -/
structure AuEnv (w V : World) (a : Au) (p : AuP) : Prop where
  f : Fro w.heap.size w V
  c : HasAt w.heap.size (auCells a p) V
theorem AuEnv.next {w V V' : World} {a : Au} {p : AuP} (h : AuEnv w V a p) (hb : Fro V.heap.size V V') : AuEnv w V' a p := ⟨h.f.next hb.b, h.c.below hb.b⟩

set_option maxHeartbeats 8000000 in
theorem automata_c (al mr : List Int) (n : Int) (ed : List Ed) (p : AuP) (AD AW AS : Option Addr) (cD cW cS : Nat) (dist wd dead : List Int) (w : World)
    (h1 : IntsAt w p.A1 al) (h2 : IntsAt w p.A2 mr) (h3 : EdsAt w p.A3 ed) (hd : IntsAt w AD dist) (hw : IntsAt w AW wd) (hs : IntsAt w AS dead)
    (la : al.length ≤ maxLen) (lm : mr.length ≤ maxLen) (le : ed.length ≤ maxLen) (ld : dist.length ≤ maxLen) (lw : wd.length ≤ maxLen) (ls : dead.length ≤ maxLen) :
    Calls Try.prog 7 #[Au.val ⟨al, n, mr, ed⟩ p, .slice AD dist.length cD, .agg #[.slice AW wd.length cW, .slice AS dead.length cS]] w (Yes true w) := by
  have FC := Lib.hid (fun W (hb : Below w.heap.size w W) => few_c ⟨al, n, mr, ed⟩ p W (h1.below IntE.stays hb) (h2.below IntE.stays hb) (h3.below EdE.stays hb) la lm le)
  have HP0 : Hid (al.length ≤ 10 → mr.length ≤ 10 → ed.length ≤ 10 → Au.At w ⟨al, n, mr, ed⟩ p) := fun g1 g2 g3 => ⟨h1, h2, h3, by simp only; omega, by simp only; omega, by simp only; omega⟩
  have HD := Lib.hid hd
  have HW := Lib.hid hw
  have HS := Lib.hid hs
  unfold maxLen at la lm le ld lw ls
  clear h1 h2 h3 hd hw hs
  obtain ⟨A1, c1, A2, c2, A3, c3⟩ := p
  have W0 : Hid (Fro w.heap.size w ((w.alloc (.cells #[.slice A1 al.length c1, .int .i64 n, .slice A2 mr.length c2, .slice A3 ed.length c3] 39)).alloc (.cells #[.slice AW wd.length cW, .slice AS dead.length cS] 66))) := ((Fro.here w).alloc _).alloc _
  have C1 : Hid (HasAt w.heap.size [.slice A1 al.length c1, .int .i64 n, .slice A2 mr.length c2, .slice A3 ed.length c3] ((w.alloc (.cells #[.slice A1 al.length c1, .int .i64 n, .slice A2 mr.length c2, .slice A3 ed.length c3] 39)).alloc (.cells #[.slice AW wd.length cW, .slice AS dead.length cS] 66))) := (HasAt.new w _ _ rfl).alloc _
  have C2 : Hid (HasAt (w.heap.size + 1) [.slice AW wd.length cW, .slice AS dead.length cS] ((w.alloc (.cells #[.slice A1 al.length c1, .int .i64 n, .slice A2 mr.length c2, .slice A3 ed.length c3] 39)).alloc (.cells #[.slice AW wd.length cW, .slice AS dead.length cS] 66))) := HasAt.new _ _ _ (by simp)
  dsimp only [Au.val] at *
  go_enter Try.func7, Try.ntmps7
  go_wp2_with fail
  generalize hW : ((w.alloc (.cells #[.slice A1 al.length c1, .int .i64 n, .slice A2 mr.length c2, .slice A3 ed.length c3] 39)).alloc (.cells #[.slice AW wd.length cW, .slice AS dead.length cS] 66)) = W at *
  clear hW
  refine (known_c _).mono ?_
  rintro e w1 ⟨rfl, hb⟩
  have R1 := Lib.hid (W0.out.next hb)
  have D1 := Lib.hid (C1.out.below hb)
  have E1 := Lib.hid (C2.out.below hb)
  clear hb W0 C1 C2
  have q0 := D1.out.c 0 _ rfl
  have q1 := D1.out.c 1 _ rfl
  have q2 := D1.out.c 2 _ rfl
  have q3 := D1.out.c 3 _ rfl
  go_wp2_with fail
  refine (FC.out w1 R1.out.b).mono ?_
  intro e w2 hs
  rcases hs.no1 with ⟨rfl, S, hb⟩ | ⟨rfl, S, hb⟩
  · have R2 := Lib.hid (R1.out.next hb)
    clear hs hb
    go_wp2_with fail
    refine (known_c _).mono ?_
    rintro e w3 ⟨rfl, hb⟩
    have R3 := Lib.hid (R2.out.next hb)
    clear hb
    go_wp2
    go_ret
    exact ⟨rfl, R3.out.b⟩
  have R2 := Lib.hid (R1.out.next hb)
  have D2 := Lib.hid (D1.out.below hb)
  have E2 := Lib.hid (E1.out.below hb)
  have HP := Lib.hid (HP0.out S.out.l1 S.out.l2 S.out.l3)
  have le := S.out.l3
  have lm := S.out.l2
  simp only at le lm
  clear hs hb D1 E1 q0 q1 q2 q3 R1 HP0 FC
  have r0 := E2.out.c 0 _ rfl
  have r1 := E2.out.c 1 _ rfl
  by_cases hL : dist.length ≤ 10 ∧ wd.length ≤ 10 ∧ dead.length ≤ 10
  rotate_left
  · go_wp2_with fail
    all_goals first
      | (exfalso; omega)
      | (refine (known_c _).mono ?_; rintro e w5 ⟨rfl, hb⟩; have R5 := Lib.hid (R2.out.next hb); clear hb; go_wp2; go_ret; exact ⟨rfl, R5.out.b⟩)
  obtain ⟨l1, l2, l3⟩ := hL
  have s1 : decide ((10 : Int) < (dist.length : Int)) = false := by simp; omega
  have s2 : decide ((10 : Int) < (wd.length : Int)) = false := by simp; omega
  have s3 : decide ((10 : Int) < (dead.length : Int)) = false := by simp; omega
  have q0 := D2.out.c 0 _ rfl
  have q1 := D2.out.c 1 _ rfl
  have q2 := D2.out.c 2 _ rfl
  have q3 := D2.out.c 3 _ rfl
  go_wp2_with fail
  refine (Check_c ⟨al, n, mr, ed⟩ ⟨A1, c1, A2, c2, A3, c3⟩ w2 (HP.out.below R2.out.b)).mono ?_
  intro e w3 hs
  rcases hs.two with ⟨r, rfl, hr, HR, NR, hb⟩ | ⟨rfl, NR, hb⟩
  · have R3 := Lib.hid (R2.out.next hb)
    have D3 := Lib.hid (D2.out.below hb)
    have E3 := Lib.hid (E2.out.below hb)
    clear hs hb q0 q1 q2 q3 r0 r1 s1 s2 s3 D2 E2 R2
    have q0 := D3.out.c 0 _ rfl
    have q1 := D3.out.c 1 _ rfl
    have q2 := D3.out.c 2 _ rfl
    have q3 := D3.out.c 3 _ rfl
    go_wp2_with fail
    refine (Automaton_c ⟨al, n, mr, ed⟩ ⟨A1, c1, A2, c2, A3, c3⟩ w3 (HP.out.below R3.out.b)).mono ?_
    intro e w4 hs
    obtain ⟨rfl, hb⟩ := hs.no2 NR.out
    have R4 := Lib.hid (R3.out.next hb)
    have D4 := Lib.hid (D3.out.below hb)
    have E4 := Lib.hid (E3.out.below hb)
    clear hs hb q0 q1 q2 q3 D3 E3 R3
    have r0 := E4.out.c 0 _ rfl
    have r1 := E4.out.c 1 _ rfl
    go_wp2_with fail
    go_quiet (fail)
    have R5 := Lib.hid (R4.out.draws nq)
    have D5 := Lib.hid (D4.out.below ((Below.refl _ _).draws nq))
    have q0 := D5.out.c 0 _ rfl
    have q1 := D5.out.c 1 _ rfl
    have q2 := D5.out.c 2 _ rfl
    have q3 := D5.out.c 3 _ rfl
    generalize hW : w4.drewN nq = V at *
    clear hW R4 D4 E4 r0 r1
    go_wp2_with fail
    refine (Nonblocking_c ⟨al, n, mr, ed⟩ ⟨A1, c1, A2, c2, A3, c3⟩ AD cD dist V (HP.out.below R5.out.b) (HD.out.below IntE.stays R5.out.b) (by omega) (by simp only; omega)).mono ?_
    intro e w4 hs
    obtain ⟨rfl, hb⟩ := hs.no2 (fun h => NR.out h.r)
    have R6 := Lib.hid (R5.out.next hb)
    have D6 := Lib.hid (D5.out.below hb)
    clear hs hb q0 q1 q2 q3 D5 R5
    have q0 := D6.out.c 0 _ rfl
    have q1 := D6.out.c 1 _ rfl
    have q2 := D6.out.c 2 _ rfl
    have q3 := D6.out.c 3 _ rfl
    go_wp2_with fail
    refine (Blocking_c ⟨al, n, mr, ed⟩ ⟨A1, c1, A2, c2, A3, c3⟩ AW AS cW cS wd dead w4 (HP.out.below R6.out.b) (HW.out.below IntE.stays R6.out.b) (by omega) (HS.out.below IntE.stays R6.out.b) (by omega)).mono ?_
    intro e w5 hs
    obtain ⟨rfl, hb⟩ := hs.no2 (fun h => NR.out h.r)
    have R7 := Lib.hid (R6.out.next hb)
    clear hs hb
    go_wp2
    go_ret
    exact ⟨rfl, R7.out.b⟩
  have R3 := Lib.hid (R2.out.next hb)
  have D3 := Lib.hid (D2.out.below hb)
  have E3 := Lib.hid (E2.out.below hb)
  clear hs hb q0 q1 q2 q3 r0 r1 s1 s2 s3 D2 E2 R2
  have q0 := D3.out.c 0 _ rfl
  have q1 := D3.out.c 1 _ rfl
  have q2 := D3.out.c 2 _ rfl
  have q3 := D3.out.c 3 _ rfl
  go_wp2_with fail
  refine (Automaton_c ⟨al, n, mr, ed⟩ ⟨A1, c1, A2, c2, A3, c3⟩ w3 (HP.out.below R3.out.b)).mono ?_
  intro e w4 hs
  obtain ⟨rfl, hb⟩ := hs.yes2 NR.out
  have R4 := Lib.hid (R3.out.next hb)
  have D4 := Lib.hid (D3.out.below hb)
  have E4 := Lib.hid (E3.out.below hb)
  clear hs hb q0 q1 q2 q3 D3 E3 R3
  have r0 := E4.out.c 0 _ rfl
  have r1 := E4.out.c 1 _ rfl
  go_wp2_with fail
  go_quiet (fail)
  have R5 := Lib.hid (R4.out.draws nq)
  have D5 := Lib.hid (D4.out.below ((Below.refl _ _).draws nq))
  generalize hW : w4.drewN nq = V at *
  clear hW R4 D4 E4 r0 r1
  have q1 := D5.out.c 1 _ rfl
  have hn0 := NR.out.n0
  simp only at hn0
  have hn1 : n ≤ 40 := by
    rcases S.out.n with h | h
    · exact h
    · exact absurd NR.out h
  obtain ⟨m, rfl⟩ := Int.eq_ofNat_of_zero_le hn0
  have hz0 := D5.out.z
  obtain ⟨g0, hg0⟩ : ∃ g0 : Bool, ((dist.length : Int) == (m : Int)) = g0 := ⟨_, rfl⟩
  have HG0 : Hid (g0 = true ↔ (dist.length : Int) = m) := by unfold Hid; rw [← hg0]; simp
  go_upto_block 0 with fail
  clear hg0
  have WV := Lib.hid (Fro.here V)
  go_cut [10] (fun s10 wx => ∃ g : Bool, s10 = .bool g ∧ Hid (g = true ↔ NonbOk ⟨al, m, mr, ed⟩ dist) ∧ Hid (Fro V.heap.size V wx))
  case first =>
    go_wp2_with fail
    go_loopw [10, 11] (fun s10 i wr => ∃ (k : Nat) (g : Bool), k ≤ m ∧ i = .int .i64 k ∧ s10 = .bool g ∧ Hid (Fro V.heap.size V wr) ∧ Hid (g = true ↔ GoodAll ⟨al, m, mr, ed⟩ dist k)) (fun _ i _ => m - (intOf i).toNat)
    case atStart => exact ⟨0, g0, by omega, rfl, rfl, WV.out, by rw [Hid, HG0.out]; exact ⟨fun h => ⟨h, fun j hj => absurd hj (by omega)⟩, fun h => h.l⟩⟩
    case round =>
      obtain ⟨k, g, hk, rfl, rfl, BW, HG⟩ := hrel
      have D6 := Lib.hid (D5.out.below BW.out.b)
      have WF := Lib.hid (R5.out.next BW.out.b)
      clear q1 hz0
      have q1 := D6.out.c 1 _ rfl
      have q2 := D6.out.c 2 _ rfl
      have q3 := D6.out.c 3 _ rfl
      have hz0 := D6.out.z
      by_cases hlt : k < m
      rotate_left
      · obtain rfl : k = m := by omega
        have hlt' : decide ((k : Int) < (k : Int)) = false := by simp
        go_wp2_with fail
        go_meet
        exact ⟨g, rfl, by rw [Hid, HG.out, nonb_iff NR.out]; exact ⟨fun h => ⟨h.l, fun j hj => h.g j (by have := h.l; simp only at this; omega)⟩, fun h => ⟨h.l, fun j hj => h.g j (by have := h.l; simp only at this; omega)⟩⟩, BW.out⟩
      have hlt' : decide ((k : Int) < (m : Int)) = true := by simp; omega
      cases g
      · go_wp2_with fail
        go_meet
        exact ⟨false, rfl, by rw [Hid, nonb_iff NR.out]; exact ⟨fun h => absurd h (by simp), fun h => HG.out.2 ⟨h.l, fun j hj => h.g j (by have := h.l; simp only at this; omega)⟩⟩, BW.out⟩
      have GA := Lib.hid (HG.out.1 (by simp))
      have hdm : dist.length = m := by have := GA.out.l; simp only at this; omega
      subst hdm
      obtain ⟨d, hd⟩ : ∃ d, dist[k]? = some d := ⟨_, List.getElem?_eq_getElem hlt⟩
      have HX := Lib.hid hd
      clear hd HG
      go_wp2_with fail
      go_loopw [12, 88] (fun s12 j wx => ∃ (t : Nat) (b : Bool), t ≤ ed.length ∧ j = .int .i64 t ∧ s12 = .bool b ∧ Hid (Fro V.heap.size V wx) ∧ Hid (b = true ↔ nearTo dist k t ed)) (fun _ j _ => ed.length - (intOf j).toNat)
      case atStart => exact ⟨0, false, by omega, rfl, rfl, BW.out, by simp [Hid, nearTo]⟩
      case round =>
        obtain ⟨t, b, ht, rfl, rfl, BX, HB⟩ := hrel
        have D7 := Lib.hid (D5.out.below BX.out.b)
        have WX := Lib.hid (R5.out.next BX.out.b)
        clear q1 q2 q3 hz0 D6 WF BW
        have q2 := D7.out.c 2 _ rfl
        have hz0 := D7.out.z
        obtain ⟨bD, oD, hAD, lD, eD⟩ := IntsAt.get (HD.out.below IntE.stays WX.out.b) HX.out
        subst hAD
        by_cases htl : t < ed.length
        · obtain ⟨bE, oE, y, hA3, hbE, hy, e0, e1, e2⟩ := EdsAt.at ((HP.out.below WX.out.b).ed) htl
          have HE := Lib.hid (NR.out.ed t htl y hy)
          have HN := Lib.hid (nearTo_snoc hy HX.out)
          obtain ⟨src, ev, dst⟩ := y
          dsimp only at hA3 e0 e1 e2 HN
          subst hA3
          clear hy
          have BN : Hid (Fro V.heap.size V (wr.alloc (.cells #[.int .i64 src, .int .i64 ev, .int .i64 dst] 73))) := BX.out.alloc _
          obtain ⟨d0, d1⟩ : 0 ≤ dst ∧ dst < dist.length := ⟨HE.out.2.2.1, HE.out.2.2.2.1⟩
          obtain ⟨dn, rfl⟩ := Int.eq_ofNat_of_zero_le d0
          obtain ⟨dd, hdd⟩ : ∃ dd, dist[dn]? = some dd := ⟨_, List.getElem?_eq_getElem (by omega)⟩
          obtain ⟨bD', oD', hAD', lD', eD'⟩ := IntsAt.get (HD.out.below IntE.stays WX.out.b) hdd
          cases hAD'
          have HNP : Hid (nearP dist d ⟨src, ev, (dn : Int)⟩ ↔ dd < d) := by
            simp only [Hid, nearP, Int.toNat_natCast, hdd, Option.some.injEq]
            exact ⟨fun ⟨_, h1, h2⟩ => by rw [h1]; exact h2, fun h => ⟨_, rfl, h⟩⟩
          clear hdd
          cases b
          · by_cases hs : src = (k : Int)
            · have hs' : (src == (k : Int)) = true := by simpa using hs
              have HSR := Lib.hid hs
              clear hs
              by_cases hdl : dd < d
              · have hdl' : decide (dd < d) = true := by simpa using hdl
                have YN : Hid (nearP dist d ⟨src, ev, (dn : Int)⟩) := HNP.out.2 hdl
                clear hdl
                go_wp2_with fail
                go_quiet (fail)
                go_wp2
                go_roundw
                case rel => exact ⟨t + 1, true, by omega, by go_num, rfl, BN.out.draws _, by rw [Hid, HN.out]; exact ⟨fun _ => .inr ⟨HSR.out, YN.out⟩, fun _ => rfl⟩⟩
                case measure => simp [intOf]; omega
              · have hdl' : decide (dd < d) = false := by simpa using hdl
                have YN : Hid (¬ nearP dist d ⟨src, ev, (dn : Int)⟩) := fun h => hdl (HNP.out.1 h)
                clear hdl
                go_wp2_with fail
                go_quiet (fail)
                go_wp2
                go_roundw
                case rel => exact ⟨t + 1, false, by omega, by go_num, rfl, BN.out.draws _, by rw [Hid, HN.out]; exact ⟨fun h => absurd h (by simp), fun h => h.elim (fun h => absurd (HB.out.2 h) (by simp)) (fun h => absurd h.2 YN.out)⟩⟩
                case measure => simp [intOf]; omega
            · have hs' : (src == (k : Int)) = false := by simpa using hs
              have HSR := Lib.hid hs
              clear hs
              go_wp2_with fail
              go_quiet (fail)
              go_wp2
              go_roundw
              case rel => exact ⟨t + 1, false, by omega, by go_num, rfl, BN.out.draws _, by rw [Hid, HN.out]; exact ⟨fun h => absurd h (by simp), fun h => h.elim (fun h => absurd (HB.out.2 h) (by simp)) (fun h => absurd h.1 HSR.out)⟩⟩
              case measure => simp [intOf]; omega
          · go_wp2_with fail
            go_quiet (fail)
            go_wp2
            go_roundw
            case rel => exact ⟨t + 1, true, by omega, by go_num, rfl, BN.out.draws _, by rw [Hid, HN.out]; exact ⟨fun h => .inl (HB.out.1 (by simp)), fun _ => rfl⟩⟩
            case measure => simp [intOf]; omega
        · obtain rfl : t = ed.length := by omega
          have HNE : Hid (b = true ↔ ∃ x, x ∈ outOf ed k ∧ nearP dist d x) := by rw [Hid, HB.out, nearTo_iff HX.out]
          clear HB
          have stepG : Hid (∀ g' : Bool, (g' = true ↔ d = 0 ∧ (k : Int) ∈ mr ∨ 0 < d ∧ ∃ x, x ∈ outOf ed k ∧ nearP dist d x) → (g' = true ↔ GoodAll ⟨al, dist.length, mr, ed⟩ dist (k + 1))) := fun g' h => by
            rw [h]
            constructor
            · intro h2
              refine ⟨GA.out.l, fun j hj => ?_⟩
              by_cases e : j = k
              · subst e; intro d' hd'; rw [HX.out] at hd'; cases hd'; exact h2
              · exact GA.out.g j (by omega)
            · exact fun h2 => h2.g k (by omega) d HX.out
          by_cases hd0 : d = 0
          · subst hd0
            go_wp2_with fail
            refine (lhas_c A2 c2 mr k wr ((HP.out.below WX.out.b).mr) (by omega)).mono ?_
            rintro e w6 ⟨r, rfl, hr, rfl⟩
            have HR := Lib.hid hr
            clear hr
            cases r
            all_goals
              go_wp2
              go_roundw
              case rel => exact ⟨k + 1, _, by omega, by go_num, rfl, BX.out, stepG.out _ ⟨fun h => .inl ⟨by simp, HR.out.1 (by first | trivial | rfl | (cases h; done))⟩, fun h => h.elim (fun h => by first | rfl | (have := HR.out.2 h.2; simp at this)) (fun h => absurd h.1 (by omega))⟩⟩
              case measure => simp [intOf]; omega
          · have hd0' : (d == 0) = false := by simpa using hd0
            by_cases hdp : 0 < d
            · have hdp' : decide (0 < d) = true := by simpa using hdp
              go_wp2
              go_roundw
              case rel => exact ⟨k + 1, b, by omega, by go_num, rfl, BX.out, stepG.out _ (by rw [HNE.out]; exact ⟨fun h => .inr ⟨hdp, h⟩, fun h => h.elim (fun h => absurd h.1 hd0) (fun h => h.2)⟩)⟩
              case measure => simp [intOf]; omega
            · have hdp' : decide (0 < d) = false := by simpa using hdp
              go_wp2
              go_roundw
              case rel => exact ⟨k + 1, false, by omega, by go_num, rfl, BX.out, stepG.out _ (by simp [hd0, hdp])⟩
              case measure => simp [intOf]; omega
  case rest =>
    obtain ⟨g, rfl, HG, R6⟩ := hcut
    have D6 := Lib.hid (D5.out.below R6.out.b)
    have WF := Lib.hid (R5.out.next R6.out.b)
    clear q1 hz0 D5 R5 WV HG0 R6
    have q1 := D6.out.c 1 _ rfl
    have hz0 := D6.out.z
    go_upto_block 4 with fail
    go_cut [10] (fun s10 wx => s10 = .bool g ∧ wx = wc)
    case first =>
      go_wp2_with fail
      go_loop [10, 15] (fun s10 i => ∃ k : Nat, k ≤ dist.length ∧ i = .int .i64 k ∧ s10 = .bool g) (fun _ i => dist.length - (intOf i).toNat)
      case atStart => exact ⟨0, by omega, rfl, rfl⟩
      case round =>
        obtain ⟨k, hk, rfl, rfl⟩ := hrel
        by_cases hlt : k < dist.length
        · have hlt' : decide ((k : Int) < (dist.length : Int)) = true := by simp; omega
          cases g
          · go_wp2_with fail
            go_meet
            exact ⟨rfl, rfl⟩
          · have GA := Lib.hid (HG.out.1 (by simp))
            obtain ⟨d, hd⟩ : ∃ d, dist[k]? = some d := ⟨_, List.getElem?_eq_getElem hlt⟩
            obtain ⟨bD, oD, hAD, lD, eD⟩ := IntsAt.get (HD.out.below IntE.stays WF.out.b) hd
            subst hAD
            have hdp := (GA.out.d k d hd).1
            have hdp' : decide (0 ≤ d) = true := by simpa using hdp
            clear hd
            go_wp2
            go_round
            case rel => exact ⟨k + 1, by omega, by go_num, rfl⟩
            case measure => simp [intOf]; omega
        · obtain rfl : k = dist.length := by omega
          have hlt' : decide ((dist.length : Int) < (dist.length : Int)) = false := by simp
          go_wp2_with fail
          go_meet
          exact ⟨rfl, rfl⟩
    case rest =>
      obtain ⟨rfl, rfl⟩ := hcut
      go_wp2_with fail
      refine (checkSetA_c AS cS dead m wc (HS.out.below IntE.stays WF.out.b) (by unfold maxLen; omega)).mono ?_
      intro e w6 hs
      obtain ⟨b0, hb0⟩ : ∃ b0 : Bool, b0 = true ↔ setOk dead m dead.length := by
        by_cases h : setOk dead m dead.length
        · exact ⟨true, by simp [h]⟩
        · exact ⟨false, by simp [h]⟩
      obtain ⟨r6, he6, hbr, rfl⟩ : ∃ r6 : Int, e = .returned (.int .i64 r6) ∧ (r6 == 0) = b0 ∧ wc = w6 := by
        obtain ⟨r, h1, h2, h3⟩ := hs
        exact ⟨r, h1, by rw [Bool.eq_iff_iff, hb0, ← h2]; simp, h3⟩
      subst he6
      have HB0 := Lib.hid hb0
      clear hs hb0
      have q3 := D6.out.c 3 _ rfl
      go_upto_block 6 with fail
      clear hbr
      have WV := Lib.hid (Fro.here wc)
      go_cut [16] (fun s16 wx => ∃ b : Bool, s16 = .bool b ∧ Hid (b = true ↔ BlocksP ⟨al, m, mr, ed⟩ dead ed.length 0) ∧ Hid (Fro wc.heap.size wc wx))
      case first =>
        go_wp2_with fail
        go_loopw [16, 155] (fun s16 j wr => ∃ (t : Nat) (b : Bool), t ≤ ed.length ∧ j = .int .i64 t ∧ s16 = .bool b ∧ Hid (Fro wc.heap.size wc wr) ∧ Hid (b = true ↔ BlocksP ⟨al, m, mr, ed⟩ dead t 0)) (fun _ j _ => ed.length - (intOf j).toNat)
        case atStart => exact ⟨0, b0, by omega, rfl, rfl, WV.out, by rw [Hid, HB0.out]; exact ⟨fun h => ⟨h, fun j y hj => absurd hj (by omega), fun j i hj => absurd hj (by omega)⟩, fun h => h.s⟩⟩
        case round =>
          obtain ⟨t, b, ht, rfl, rfl, BX, HB⟩ := hrel
          have WX := Lib.hid (WF.out.next BX.out.b)
          clear q1 q3 hz0
          by_cases htl : t < ed.length
          · obtain ⟨bE, oE, y, hA3, hbE, hy, e0, e1, e2⟩ := EdsAt.at ((HP.out.below WX.out.b).ed) htl
            obtain ⟨src, ev, dst⟩ := y
            dsimp only at hA3 e0 e1 e2
            subst hA3
            have HY := Lib.hid hy
            clear hy
            have BN : Hid (Fro wc.heap.size wc (wr.alloc (.cells #[.int .i64 src, .int .i64 ev, .int .i64 dst] 73))) := BX.out.alloc _
            have WN : Hid (Fro w.heap.size w (wr.alloc (.cells #[.int .i64 src, .int .i64 ev, .int .i64 dst] 73))) := WX.out.alloc _
            have HSN : Hid (BlocksP ⟨al, m, mr, ed⟩ dead (t + 1) 0 ↔ BlocksP ⟨al, m, mr, ed⟩ dead t 0 ∧ (src ∈ dead → dst ∈ dead)) := by
              constructor
              · exact fun h => ⟨⟨h.s, fun j y hj => h.e j y (by omega), h.m⟩, h.e t _ (by omega) HY.out⟩
              · rintro ⟨h, h2⟩
                refine ⟨h.s, fun j y hj hy => ?_, h.m⟩
                by_cases e : j = t
                · subst e; rw [HY.out] at hy; cases hy; exact h2
                · exact h.e j y (by omega) hy
            cases b
            · go_wp2
              go_roundw
              case rel => exact ⟨t + 1, false, by omega, by go_num, rfl, BN.out, by rw [Hid, HSN.out]; exact ⟨fun h => absurd h (by simp), fun h => HB.out.2 h.1⟩⟩
              case measure => simp [intOf]; omega
            · have YB := Lib.hid (HB.out.1 (by simp))
              go_wp2_with fail
              refine (lhas_c AS cS dead src _ (HS.out.below IntE.stays WN.out.b) (by omega)).mono ?_
              intro e w7 hs
              rcases hs.no1 with ⟨rfl, T, rfl⟩ | ⟨rfl, T, rfl⟩
              · clear hs
                go_wp2
                go_roundw
                case rel => exact ⟨t + 1, true, by omega, by go_num, rfl, BN.out, by rw [Hid, HSN.out]; exact ⟨fun _ => ⟨YB.out, fun h => absurd h T.out⟩, fun _ => rfl⟩⟩
                case measure => simp [intOf]; omega
              · clear hs
                go_wp2_with fail
                refine (lhas_c AS cS dead dst _ (HS.out.below IntE.stays WN.out.b) (by omega)).mono ?_
                rintro e w7 ⟨r, rfl, hr, rfl⟩
                have HR := Lib.hid hr
                clear hr
                go_wp2
                go_roundw
                case rel => exact ⟨t + 1, r, by omega, by go_num, rfl, BN.out, by rw [Hid, HSN.out, HR.out]; exact ⟨fun h => ⟨YB.out, fun _ => h⟩, fun h => h.2 T.out⟩⟩
                case measure => simp [intOf]; omega
          · obtain rfl : t = ed.length := by omega
            go_wp2_with fail
            go_meet
            exact ⟨b, rfl, HB.out, BX.out⟩
      case rest =>
        obtain ⟨b, rfl, HB1, R7⟩ := hcut
        have D7 := Lib.hid (D6.out.below R7.out.b)
        have WG := Lib.hid (WF.out.next R7.out.b)
        clear q1 q3 hz0 D6 WF WV R7 HB0
        go_upto_block 8 with fail
        have WV := Lib.hid (Fro.here wc)
        go_cut [16] (fun s16 wx => ∃ b : Bool, s16 = .bool b ∧ Hid (b = true ↔ BlocksP ⟨al, m, mr, ed⟩ dead ed.length dead.length) ∧ Hid (Fro wc.heap.size wc wx))
        case first =>
          go_wp2_with fail
          go_loopw [16, 19] (fun s16 j wr => ∃ (t : Nat) (b : Bool), t ≤ dead.length ∧ j = .int .i64 t ∧ s16 = .bool b ∧ Hid (Fro wc.heap.size wc wr) ∧ Hid (b = true ↔ BlocksP ⟨al, m, mr, ed⟩ dead ed.length t)) (fun _ j _ => dead.length - (intOf j).toNat)
          case atStart => exact ⟨0, b, by omega, rfl, rfl, WV.out, HB1.out⟩
          case round =>
            obtain ⟨t, b, ht, rfl, rfl, BX, HB⟩ := hrel
            have WX := Lib.hid (WG.out.next BX.out.b)
            have D8 := Lib.hid (D7.out.below BX.out.b)
            have q2 := D8.out.c 2 _ rfl
            have hz0 := D8.out.z
            by_cases htl : t < dead.length
            · obtain ⟨x, hx⟩ : ∃ x, dead[t]? = some x := ⟨_, List.getElem?_eq_getElem htl⟩
              obtain ⟨bS, oS, hAS, hbS, eS⟩ := IntsAt.get (HS.out.below IntE.stays WX.out.b) hx
              subst hAS
              have HX := Lib.hid hx
              clear hx
              have HSN : Hid (BlocksP ⟨al, m, mr, ed⟩ dead ed.length (t + 1) ↔ BlocksP ⟨al, m, mr, ed⟩ dead ed.length t ∧ x ∉ mr) := by
                constructor
                · exact fun h => ⟨⟨h.s, h.e, fun j y hj => h.m j y (by omega)⟩, h.m t _ (by omega) HX.out⟩
                · rintro ⟨h, h2⟩
                  refine ⟨h.s, h.e, fun j y hj hy => ?_⟩
                  by_cases e : j = t
                  · subst e; rw [HX.out] at hy; cases hy; exact h2
                  · exact h.m j y (by omega) hy
              cases b
              · go_wp2_with fail
                go_quiet (fail)
                go_wp2
                go_roundw
                case rel => exact ⟨t + 1, false, by omega, by go_num, rfl, BX.out.draws _, by rw [Hid, HSN.out]; exact ⟨fun h => absurd h (by simp), fun h => HB.out.2 h.1⟩⟩
                case measure => simp [intOf]; omega
              · have YB := Lib.hid (HB.out.1 (by simp))
                by_cases hm : x ∈ mr
                · have QH := Lib.hid (fun k => lhas_quiet A2 c2 mr x wr k ((HP.out.below WX.out.b).mr) (by omega) true (by simp [hm]))
                  have HM := Lib.hid hm
                  clear hm
                  go_wp2_with fail
                  go_quiet ((with_reducible exact QH.out _))
                  go_wp2
                  go_roundw
                  case rel => exact ⟨t + 1, false, by omega, by go_num, rfl, BX.out.draws _, by rw [Hid, HSN.out]; exact ⟨fun h => absurd h (by simp), fun h => absurd HM.out h.2⟩⟩
                  case measure => simp [intOf]; omega
                · have QH := Lib.hid (fun k => lhas_quiet A2 c2 mr x wr k ((HP.out.below WX.out.b).mr) (by omega) false (by simp [hm]))
                  have HM := Lib.hid hm
                  clear hm
                  go_wp2_with fail
                  go_quiet ((with_reducible exact QH.out _))
                  go_wp2
                  go_roundw
                  case rel => exact ⟨t + 1, true, by omega, by go_num, rfl, BX.out.draws _, by rw [Hid, HSN.out]; exact ⟨fun _ => ⟨YB.out, HM.out⟩, fun _ => rfl⟩⟩
                  case measure => simp [intOf]; omega
            · obtain rfl : t = dead.length := by omega
              go_wp2_with fail
              go_meet
              exact ⟨b, rfl, HB.out, BX.out⟩
        case rest =>
          obtain ⟨b, rfl, HB2, R8⟩ := hcut
          have D8 := Lib.hid (D7.out.below R8.out.b)
          have WX := Lib.hid (WG.out.next R8.out.b)
          clear D7 WG WV R8 HB1
          go_upto_block 10 with fail
          have WV := Lib.hid (Fro.here wc)
          go_cut [20] (fun s20 wx => s20 = .int .i64 (runV ed 0 wd) ∧ Hid (Fro wc.heap.size wc wx))
          case first =>
            go_wp2_with fail
            go_loopw [20, 21] (fun s20 j wr => ∃ (k : Nat) (x : Int), k ≤ wd.length ∧ j = .int .i64 k ∧ s20 = .int .i64 x ∧ Hid (x = runV ed 0 (wd.take k)) ∧ Hid (Fro wc.heap.size wc wr)) (fun _ j _ => wd.length - (intOf j).toNat)
            case atStart => exact ⟨0, 0, by omega, rfl, rfl, rfl, WV.out⟩
            case round =>
              obtain ⟨k, x, hk, rfl, rfl, HX, BX⟩ := hrel
              have WY := Lib.hid (WX.out.next BX.out.b)
              have D9 := Lib.hid (D8.out.below BX.out.b)
              have q0 := D9.out.c 0 _ rfl
              have q1 := D9.out.c 1 _ rfl
              have q2 := D9.out.c 2 _ rfl
              have q3 := D9.out.c 3 _ rfl
              have hz0 := D9.out.z
              by_cases hlt : k < wd.length
              · have hlt' : decide ((k : Int) < (wd.length : Int)) = true := by simp; omega
                by_cases hx0 : 0 ≤ x
                · have hx0' : decide (0 ≤ x) = true := by simpa using hx0
                  obtain ⟨ev, hev⟩ : ∃ ev, wd[k]? = some ev := ⟨_, List.getElem?_eq_getElem hlt⟩
                  obtain ⟨bW, oW, hAW, hbW, eW⟩ := IntsAt.get (HW.out.below IntE.stays WY.out.b) hev
                  subst hAW
                  have HT := Lib.hid (show wd.take (k + 1) = wd.take k ++ [ev] by rw [List.take_add_one, hev]; rfl)
                  clear hev
                  have HNX := Lib.hid (next_c ⟨al, m, mr, ed⟩ ⟨A1, c1, A2, c2, A3, c3⟩ x ev wr.drew ((HP.out.below WY.out.b.drew).ed) (by simp only; omega))
                  go_wp2_with fail
                  go_still_tail 6, (by kernel_rfl)
                  change wpList _ _ _ _ _ wr.drew
                  go_wp2_with fail
                  refine HNX.out.mono ?_
                  rintro e w7 ⟨rfl, hb⟩
                  have BN := Lib.hid (BX.out.drew.next hb)
                  have HX2 := Lib.hid (runV_snoc ed (wd.take k) 0 ev)
                  clear hb
                  go_wp2
                  go_roundw
                  case rel => exact ⟨k + 1, _, by omega, by go_num, rfl, by rw [Hid, HT.out, HX2.out, ← HX.out, if_pos (by omega)], BN.out⟩
                  case measure => simp [intOf]; omega
                · have hx0' : decide (0 ≤ x) = false := by simpa using hx0
                  go_wp2_with fail
                  go_meet
                  exact ⟨by
                    have := runV_stuck ed (s := 0) (r := wd.take k) (q := wd.drop k) (by rw [← HX.out]; omega)
                    rw [List.take_append_drop, ← HX.out] at this
                    rw [this], BX.out⟩
              · obtain rfl : k = wd.length := by omega
                have hlt' : decide ((wd.length : Int) < (wd.length : Int)) = false := by simp
                go_wp2_with fail
                go_meet
                exact ⟨by rw [HX.out, List.take_length], BX.out⟩
          case rest =>
            obtain ⟨rfl, R9⟩ := hcut
            have D9 := Lib.hid (D8.out.below R9.out.b)
            have WY := Lib.hid (WX.out.next R9.out.b)
            clear D8 WX WV R9
            generalize hat : runV ed 0 wd = at_
            have HAT := Lib.hid hat
            clear hat
            have q0 := D9.out.c 0 _ rfl
            have q1 := D9.out.c 1 _ rfl
            have q2 := D9.out.c 2 _ rfl
            have q3 := D9.out.c 3 _ rfl
            have hz0 := D9.out.z
            go_wp2_with fail
            refine (Nonblocking_c ⟨al, m, mr, ed⟩ ⟨A1, c1, A2, c2, A3, c3⟩ AD cD dist wc (HP.out.below WY.out.b) (HD.out.below IntE.stays WY.out.b) (by omega) (by simp only; omega)).mono ?_
            rintro e w8 ⟨rn, rfl, hrn, hb⟩
            obtain rfl : rn = g := by rw [Bool.eq_iff_iff, hrn, HG.out]
            have WZ := Lib.hid (WY.out.next hb)
            have D10 := Lib.hid (D9.out.below hb)
            clear hrn hb q0 q1 q2 q3 hz0 D9 WY HG
            have q0 := D10.out.c 0 _ rfl
            have q1 := D10.out.c 1 _ rfl
            have q2 := D10.out.c 2 _ rfl
            have q3 := D10.out.c 3 _ rfl
            have hz0 := D10.out.z
            have hgg : (rn == rn) = true := by simp
            go_wp2_with fail
            refine (Blocking_c ⟨al, m, mr, ed⟩ ⟨A1, c1, A2, c2, A3, c3⟩ AW AS cW cS wd dead w8 (HP.out.below WZ.out.b) (HW.out.below IntE.stays WZ.out.b) (by omega) (HS.out.below IntE.stays WZ.out.b) (by omega)).mono ?_
            rintro e w9 ⟨rb, rfl, hrb, hb⟩
            have RB : Hid (rb = true ↔ b = true ∧ (0 : Int) < m ∧ 0 ≤ at_ ∧ at_ ∈ dead) := by
              rw [Hid, hrb, block_iff NR.out, HB2.out]
              simp only [HAT.out]
            have WQ := Lib.hid (WZ.out.next hb)
            have D11 := Lib.hid (D10.out.below hb)
            clear hrb hb q0 q1 q2 q3 hz0 D10 WZ HB2
            have q1 := D11.out.c 1 _ rfl
            have hz0 := D11.out.z
            have fin : ∀ c : Bool, ¬ (b = true ∧ (0 : Int) < m ∧ 0 ≤ at_ ∧ at_ ∈ dead) → rb = false := fun _ h => by
              cases rb
              · rfl
              · exact absurd (RB.out.1 rfl) h
            have FIN := Lib.hid (fin true)
            clear fin
            cases b
            · obtain rfl := FIN.out (fun h => absurd h.1 (by simp))
              go_wp2
              go_ret
              exact ⟨rfl, WQ.out.b⟩
            by_cases hm0 : (0 : Int) < m
            rotate_left
            · have hm0' : decide ((0 : Int) < (m : Int)) = false := by simpa using hm0
              obtain rfl := FIN.out (fun h => absurd h.2.1 hm0)
              go_wp2
              go_ret
              exact ⟨rfl, WQ.out.b⟩
            have hm0' : decide ((0 : Int) < (m : Int)) = true := by simpa using hm0
            by_cases ha0 : 0 ≤ at_
            rotate_left
            · have ha0' : decide (0 ≤ at_) = false := by simpa using ha0
              obtain rfl := FIN.out (fun h => absurd h.2.2.1 ha0)
              go_wp2
              go_ret
              exact ⟨rfl, WQ.out.b⟩
            have ha0' : decide (0 ≤ at_) = true := by simpa using ha0
            go_wp2_with fail
            refine (lhas_c AS cS dead at_ w9 (HS.out.below IntE.stays WQ.out.b) (by omega)).mono ?_
            rintro e w10 ⟨r, rfl, hr, rfl⟩
            obtain rfl : rb = r := by rw [Bool.eq_iff_iff, RB.out, hr]; exact ⟨fun h => h.2.2.2, fun h => ⟨by trivial, hm0, ha0, h⟩⟩
            clear hr
            cases rb
            all_goals
              go_wp2
              go_ret
              exact ⟨rfl, WQ.out.b⟩
end Go.Proofs.Ytkbmenpggiojeaa
