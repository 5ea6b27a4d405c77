/-
  The checker's division of numbers.
-/
import Derived.Test.YtkbmenpggiojeaaKq
import Derived.RegionTactic
import Derived.BigRegion
namespace Go.Proofs.Ytkbmenpggiojeaa
open Go.RowKit
set_option linter.unusedSimpArgs false
set_option linter.unusedVariables false

structure DivS (w wx : World) (g gk gp n : Nat) (kp : List Bool) (pl : List Int) (vr : Value) : Prop where
  b6 : ∃ c0 c1 c2, BlkAt wx w.heap.size 133 [c0, c1, c2]
  bg : BlkAt wx g 133 [.slice (some ⟨gk, 0, none⟩) n n, .slice (some ⟨gp, 0, none⟩) n n, vr]
  bk : BlkAt wx gk 4 (kp.map .bool)
  bp : BlkAt wx gp 3 (pl.map (.int .i64))
  lg : w.heap.size < g
  lk : w.heap.size < gk
  lp : w.heap.size < gp
  below : Below w.heap.size w wx

theorem below4 (w : World) (o0 o1 o2 o3 : Obj) : Below w.heap.size w ((((w.alloc o0).alloc o1).alloc o2).alloc o3).drew :=
  ((((Below.new w o0).alloc (by simp) o1).alloc (by simp; omega) o2).alloc (by simp; omega) o3).drew
theorem heap4 (w : World) (o0 o1 o2 o3 : Obj) : ((((w.alloc o0).alloc o1).alloc o2).alloc o3).drew.heap[w.heap.size]? = some o0 ∧ ((((w.alloc o0).alloc o1).alloc o2).alloc o3).drew.heap[w.heap.size + 1]? = some o1 ∧
    ((((w.alloc o0).alloc o1).alloc o2).alloc o3).drew.heap[w.heap.size + 1 + 1]? = some o2 ∧ ((((w.alloc o0).alloc o1).alloc o2).alloc o3).drew.heap[w.heap.size + 1 + 1 + 1]? = some o3 := by
  refine ⟨?_, ?_, ?_, ?_⟩
  · show ((((w.heap.push o0).push o1).push o2).push o3)[w.heap.size]? = _
    rw [Array.getElem?_push, if_neg (by simp only [Array.size_push]; omega), Array.getElem?_push, if_neg (by simp only [Array.size_push]; omega), Array.getElem?_push, if_neg (by simp only [Array.size_push]; omega), Array.getElem?_push, if_pos rfl]
  · show ((((w.heap.push o0).push o1).push o2).push o3)[w.heap.size + 1]? = _
    rw [Array.getElem?_push, if_neg (by simp only [Array.size_push]; omega), Array.getElem?_push, if_neg (by simp only [Array.size_push]; omega), Array.getElem?_push, if_pos (by simp only [Array.size_push])]
  · show ((((w.heap.push o0).push o1).push o2).push o3)[w.heap.size + 1 + 1]? = _
    rw [Array.getElem?_push, if_neg (by simp only [Array.size_push]; omega), Array.getElem?_push, if_pos (by simp only [Array.size_push])]
  · show ((((w.heap.push o0).push o1).push o2).push o3)[w.heap.size + 1 + 1 + 1]? = _
    rw [Array.getElem?_push, if_pos (by simp only [Array.size_push])]
theorem repB (n : Nat) : (List.map Value.bool (List.replicate n false)).toArray = Array.replicate n (Value.bool false) := by simp
theorem repI (n : Nat) : (List.map (Value.int .i64) (List.replicate n 0)).toArray = Array.replicate n (Value.int .i64 0) := by simp

theorem boolInfo : (Try.prog.info? 4).map (fun i => (i.zero, i.size, i.bytes)) = some (some (.bool false), 1, 1) := by kernel_rfl
theorem intInfo : (Try.prog.info? 3).map (fun i => (i.zero, i.size, i.bytes)) = some (some (.int .i64 0), 1, 8) := by kernel_rfl

/-- The result's struct is filled. -/
theorem BlkAt.set3 {w : World} {g : Nat} {T : TypeId} {c0 c1 c2 : Value} (h : BlkAt w g T [c0, c1, c2]) (a b c : Value) : BlkAt (((w.setCell ⟨g, 0, none⟩ a).setCell ⟨g, 1, none⟩ b).setCell ⟨g, 2, none⟩ c) g T [a, b, c] :=
  ((h.set_ 0 a).set_ 1 b).set_ 2 c

/-- What 'divide' returns. -/
def Divides (n : Nat) (kept : List Int) (rms : List Rm) (w : World) (e : Ending) (w' : World) : Prop :=
  ∃ (s : Sp) (p : SpP) (r : Bool), e = .returned (.tuple #[s.val p, .bool r]) ∧ s.rm = rms ∧ (r = true ↔ DivOk n kept rms) ∧ (r = true → Sp.At w' s p ∧ s.Of n kept ∧ ∀ (i : Nat) r, r ∈ rms → r.st = (i : Int) → s.kp[i]? = some false) ∧ Below w.heap.size w w'

theorem DivS.setK {w wx : World} {g gk gp n : Nat} {kp : List Bool} {pl : List Int} {vr : Value} (D : DivS w wx g gk gp n kp pl vr) (i : Nat) (x : Bool) : DivS w (wx.setCell ⟨gk, i, none⟩ (.bool x)) g gk gp n (kp.set i x) pl vr := by
  obtain ⟨⟨c0, c1, c2, h6⟩, hg, hk, hp, l1, l2, l3, hb⟩ := D
  refine ⟨⟨c0, c1, c2, h6.far (by simp only; omega) _⟩, hg.far (by exact hg.ne_ hk (by decide)) _, ?_, hp.far (by exact hp.ne_ hk (by decide)) _, l1, l2, l3, hb.setCell (by simp only; omega) _⟩
  have := hk.set_ i (.bool x)
  rwa [← List.map_set] at this
theorem DivS.setP {w wx : World} {g gk gp n : Nat} {kp : List Bool} {pl : List Int} {vr : Value} (D : DivS w wx g gk gp n kp pl vr) (i : Nat) (x : Int) : DivS w (wx.setCell ⟨gp, i, none⟩ (.int .i64 x)) g gk gp n kp (pl.set i x) vr := by
  obtain ⟨⟨c0, c1, c2, h6⟩, hg, hk, hp, l1, l2, l3, hb⟩ := D
  refine ⟨⟨c0, c1, c2, h6.far (by simp only; omega) _⟩, hg.far (by exact hg.ne_ hp (by decide)) _, hk.far (by exact hk.ne_ hp (by decide)) _, ?_, l1, l2, l3, hb.setCell (by simp only; omega) _⟩
  have := hp.set_ i (.int .i64 x)
  rwa [← List.map_set] at this
theorem DivS.drew {w wx : World} {g gk gp n : Nat} {kp : List Bool} {pl : List Int} {vr : Value} (D : DivS w wx g gk gp n kp pl vr) : DivS w wx.drew g gk gp n kp pl vr :=
  ⟨D.b6, D.bg, D.bk, D.bp, D.lg, D.lk, D.lp, D.below.drew⟩
theorem DivS.newD {w wx : World} {g gk gp n : Nat} {kp : List Bool} {pl : List Int} {vr : Value} (D : DivS w wx g gk gp n kp pl vr) (o : Obj) (q : Nat) : DivS w ((wx.alloc o).drewN q) g gk gp n kp pl vr := by
  obtain ⟨⟨c0, c1, c2, h6⟩, hg, hk, hp, l1, l2, l3, hb⟩ := D
  exact ⟨⟨c0, c1, c2, (h6.alloc o).draws q⟩, (hg.alloc o).draws q, (hk.alloc o).draws q, (hp.alloc o).draws q, l1, l2, l3, (hb.alloc hb.size o).draws q⟩
theorem DivS.kcell {w wx : World} {g gk gp n : Nat} {kp : List Bool} {pl : List Int} {vr : Value} (D : DivS w wx g gk gp n kp pl vr) {i : Nat} {x : Bool} (h : kp[i]? = some x) : wx.cell? ⟨gk, i, none⟩ = some (.bool x) := by
  rw [D.bk.cell, List.getElem?_map, h]; rfl
theorem DivS.pcell {w wx : World} {g gk gp n : Nat} {kp : List Bool} {pl : List Int} {vr : Value} (D : DivS w wx g gk gp n kp pl vr) {i : Nat} {x : Int} (h : pl[i]? = some x) : wx.cell? ⟨gp, i, none⟩ = some (.int .i64 x) := by
  rw [D.bp.cell, List.getElem?_map, h]; rfl

theorem SlAt.of_blk {α : Type} {enc : α → Value} {w : World} {g : Nat} {T : TypeId} {l : List α} (h : BlkAt w g T (l.map enc)) : SlAt (fun _ x vs => vs = [enc x]) 1 w (some ⟨g, 0, none⟩) l := by
  intro _
  refine ⟨g, 0, rfl, h.lt, fun i x hx => ⟨[enc x], rfl, rfl, fun j u hj => ?_⟩⟩
  cases j with
  | zero =>
    simp only [List.getElem?_cons_zero, Option.some.injEq] at hj
    rw [Nat.zero_add, Nat.mul_one, Nat.add_zero, h.cell, List.getElem?_map, hx, ← hj]; rfl
  | succ j => simp at hj

theorem Divides.fin {n : Nat} {kept : List Int} {rms : List Rm} {w wx : World} {g gk gp : Nat} {kp : List Bool} {pl : List Int} {AR : Option Addr} {cR : Nat} (D : DivS w wx g gk gp n kp pl (.slice AR rms.length cR)) (lk : kp.length = n) (lp : pl.length = n) (hn : n ≤ 4096) (HR : RmsAt w AR rms) {r : Bool}
    (hr : r = true ↔ DivOk n kept rms) (hs : r = true → Sp.Of ⟨kp, pl, rms⟩ n kept ∧ ∀ (i : Nat) r, r ∈ rms → r.st = (i : Int) → kp[i]? = some false) (a b c : Value) :
    Divides n kept rms w (.returned (.tuple #[.agg #[.slice (some ⟨gk, 0, none⟩) n n, .slice (some ⟨gp, 0, none⟩) n n, .slice AR rms.length cR], .bool r])) (((wx.setCell ⟨w.heap.size, 0, none⟩ a).setCell ⟨w.heap.size, 1, none⟩ b).setCell ⟨w.heap.size, 2, none⟩ c) := by
  have hb := ((D.below.setCell (p := ⟨w.heap.size, 0, none⟩) (Nat.le_refl _) a).setCell (p := ⟨w.heap.size, 1, none⟩) (Nat.le_refl _) b).setCell (p := ⟨w.heap.size, 2, none⟩) (Nat.le_refl _) c
  refine ⟨⟨kp, pl, rms⟩, ⟨some ⟨gk, 0, none⟩, n, some ⟨gp, 0, none⟩, n, AR, cR⟩, r, by simp [lk, lp], rfl, hr, fun h => ⟨⟨?_, ?_, HR.below RmE.stays hb, by simp only [lk]; exact hn, by simp only [lp]; exact hn, ?_⟩, (hs h).1, (hs h).2⟩, hb⟩
  · exact SlAt.of_blk (enc := Value.bool) (T := 4) (((D.bk.far (p := ⟨w.heap.size, 0, none⟩) (by have := D.lk; simp only; omega) a).far (p := ⟨w.heap.size, 1, none⟩) (by have := D.lk; simp only; omega) b).far (p := ⟨w.heap.size, 2, none⟩) (by have := D.lk; simp only; omega) c)
  · exact SlAt.of_blk (enc := Value.int .i64) (T := 3) (((D.bp.far (p := ⟨w.heap.size, 0, none⟩) (by have := D.lp; simp only; omega) a).far (p := ⟨w.heap.size, 1, none⟩) (by have := D.lp; simp only; omega) b).far (p := ⟨w.heap.size, 2, none⟩) (by have := D.lp; simp only; omega) c)
  · have := (hr.1 h).len
    simp only; omega

set_option maxRecDepth 100000 in
set_option maxHeartbeats 1000000 in
theorem divide_c (n : Nat) (AK : Option Addr) (cK : Nat) (kept : List Int) (AR : Option Addr) (cR : Nat) (rms : List Rm) (w : World) (hn : n ≤ 4096) (hK : IntsAt w AK kept) (hR : RmsAt w AR rms) (lK : kept.length ≤ 4096) (lR : rms.length ≤ 140737488355328) :
    Calls Try.prog 67 #[.int .i64 n, .slice AK kept.length cK, .slice AR rms.length cR] w (Divides n kept rms w) := by
  have HK := Lib.hid hK
  have HR := Lib.hid hR
  clear hK hR
  have hmk1 := make_run (P := Try.prog) 131 4 (.bool false) 1 Try.underlying131 boolInfo rfl n (by omega) (by omega)
  have hmk2 := make_run (P := Try.prog) 36 3 (.int .i64 0) 8 Try.underlying36 intInfo rfl n (by omega) (by omega)
  go_enter Try.func67, Try.ntmps67
  go_upto_region 1 with fail
  go_cut [8] (fun s8 wx => ∃ g gk gp, s8 = .pointer (some ⟨g, 0, none⟩) ∧ Hid (DivS w wx g gk gp n (List.replicate n false) (List.replicate n 0) (.slice AR rms.length cR)))
  case first =>
    go_region
    all_goals (go_wp2_with fail; go_meet)
    all_goals first
    | exact ⟨w.heap.size + 1 + 1 + 1, w.heap.size + 1, w.heap.size + 1 + 1, rfl, ⟨⟨_, _, _, (heap4 w _ _ _ _).1⟩, (heap4 w _ _ _ _).2.2.2, by unfold BlkAt; rw [repB]; exact (heap4 w _ _ _ _).2.1, by unfold BlkAt; rw [repI]; exact (heap4 w _ _ _ _).2.2.1, by omega, by omega, by omega, below4 w _ _ _ _⟩⟩
    | exact ⟨w.heap.size + 1 + 1, w.heap.size + 1, w.heap.size + 1 + 1 + 1, rfl, ⟨⟨_, _, _, (heap4 w _ _ _ _).1⟩, (heap4 w _ _ _ _).2.2.1, by unfold BlkAt; rw [repB]; exact (heap4 w _ _ _ _).2.1, by unfold BlkAt; rw [repI]; exact (heap4 w _ _ _ _).2.2.2, by omega, by omega, by omega, below4 w _ _ _ _⟩⟩
    | exact ⟨w.heap.size + 1 + 1 + 1, w.heap.size + 1 + 1, w.heap.size + 1, rfl, ⟨⟨_, _, _, (heap4 w _ _ _ _).1⟩, (heap4 w _ _ _ _).2.2.2, by unfold BlkAt; rw [repB]; exact (heap4 w _ _ _ _).2.2.1, by unfold BlkAt; rw [repI]; exact (heap4 w _ _ _ _).2.1, by omega, by omega, by omega, below4 w _ _ _ _⟩⟩
    | exact ⟨w.heap.size + 1 + 1, w.heap.size + 1 + 1 + 1, w.heap.size + 1, rfl, ⟨⟨_, _, _, (heap4 w _ _ _ _).1⟩, (heap4 w _ _ _ _).2.2.1, by unfold BlkAt; rw [repB]; exact (heap4 w _ _ _ _).2.2.2, by unfold BlkAt; rw [repI]; exact (heap4 w _ _ _ _).2.1, by omega, by omega, by omega, below4 w _ _ _ _⟩⟩
    | exact ⟨w.heap.size + 1, w.heap.size + 1 + 1, w.heap.size + 1 + 1 + 1, rfl, ⟨⟨_, _, _, (heap4 w _ _ _ _).1⟩, (heap4 w _ _ _ _).2.1, by unfold BlkAt; rw [repB]; exact (heap4 w _ _ _ _).2.2.1, by unfold BlkAt; rw [repI]; exact (heap4 w _ _ _ _).2.2.2, by omega, by omega, by omega, below4 w _ _ _ _⟩⟩
    | exact ⟨w.heap.size + 1, w.heap.size + 1 + 1 + 1, w.heap.size + 1 + 1, rfl, ⟨⟨_, _, _, (heap4 w _ _ _ _).1⟩, (heap4 w _ _ _ _).2.1, by unfold BlkAt; rw [repB]; exact (heap4 w _ _ _ _).2.2.2, by unfold BlkAt; rw [repI]; exact (heap4 w _ _ _ _).2.2.1, by omega, by omega, by omega, below4 w _ _ _ _⟩⟩
  case rest =>
    obtain ⟨g, gk, gp, rfl, D⟩ := hcut
    clear hmk1 hmk2
    have BD := Lib.hid D.out.below
    go_wp2_with fail
    refine (set_c AK cK kept n _ (HK.out.below IntE.stays BD.out) (by unfold maxLen; omega)).mono ?_
    intro e w1 hs
    rcases hs.no1 with ⟨rfl, S, rfl⟩ | ⟨rfl, S, rfl⟩
    · have q0 : wc.cell? ⟨g, 0, none⟩ = some (.slice (some ⟨gk, 0, none⟩) n n) := D.out.bg.cell 0
      have q1 : wc.cell? ⟨g, 1, none⟩ = some (.slice (some ⟨gp, 0, none⟩) n n) := D.out.bg.cell 1
      have q2 : wc.cell? ⟨g, 2, none⟩ = some (.slice AR rms.length cR) := D.out.bg.cell 2
      obtain ⟨x0, x1, x2, hb6⟩ := D.out.b6
      have p0 : wc.cell? ⟨w.heap.size, 0, none⟩ = some x0 := hb6.cell 0
      have p1 : wc.cell? ⟨w.heap.size, 1, none⟩ = some x1 := hb6.cell 1
      have p2 : wc.cell? ⟨w.heap.size, 2, none⟩ = some x2 := hb6.cell 2
      have f0 : wc.frozen? ⟨w.heap.size, 0, none⟩ = false := hb6.free 0
      have f1 : wc.frozen? ⟨w.heap.size, 1, none⟩ = false := hb6.free 1
      have f2 : wc.frozen? ⟨w.heap.size, 2, none⟩ = false := hb6.free 2
      have HB6 := Lib.hid hb6
      clear hb6
      go_wp2
      have hb7 := HB6.out.set3 (.slice (some ⟨gk, 0, none⟩) n n) (.slice (some ⟨gp, 0, none⟩) n n) (.slice AR rms.length cR)
      have r0 := hb7.cell 0
      have r1 := hb7.cell 1
      have r2 := hb7.cell 2
      refine bodyPost_ret (v := .tuple #[.agg #[.slice (some ⟨gk, 0, none⟩) n n, .slice (some ⟨gp, 0, none⟩) n n, .slice AR rms.length cR], .bool false]) (by simp [results, Try.results67, go_sem, r0, r1, r2]) rfl ?_
      exact Divides.fin D.out (by simp) (by simp) hn HR.out ⟨fun h => (by cases h), fun h => absurd h.hk S.out⟩ (fun h => (by cases h)) _ _ _
    by_cases hlen : kept.length + rms.length = n
    rotate_left
    · have q0 : wc.cell? ⟨g, 0, none⟩ = some (.slice (some ⟨gk, 0, none⟩) n n) := D.out.bg.cell 0
      have q1 : wc.cell? ⟨g, 1, none⟩ = some (.slice (some ⟨gp, 0, none⟩) n n) := D.out.bg.cell 1
      have q2 : wc.cell? ⟨g, 2, none⟩ = some (.slice AR rms.length cR) := D.out.bg.cell 2
      obtain ⟨x0, x1, x2, hb6⟩ := D.out.b6
      have p0 : wc.cell? ⟨w.heap.size, 0, none⟩ = some x0 := hb6.cell 0
      have p1 : wc.cell? ⟨w.heap.size, 1, none⟩ = some x1 := hb6.cell 1
      have p2 : wc.cell? ⟨w.heap.size, 2, none⟩ = some x2 := hb6.cell 2
      have f0 : wc.frozen? ⟨w.heap.size, 0, none⟩ = false := hb6.free 0
      have f1 : wc.frozen? ⟨w.heap.size, 1, none⟩ = false := hb6.free 1
      have f2 : wc.frozen? ⟨w.heap.size, 2, none⟩ = false := hb6.free 2
      have HB6 := Lib.hid hb6
      clear hb6
      have hlen' : ((kept.length : Int) + (rms.length : Int) == (n : Int)) = false := by simp; omega
      go_wp2
      have hb7 := HB6.out.set3 (.slice (some ⟨gk, 0, none⟩) n n) (.slice (some ⟨gp, 0, none⟩) n n) (.slice AR rms.length cR)
      have r0 := hb7.cell 0
      have r1 := hb7.cell 1
      have r2 := hb7.cell 2
      refine bodyPost_ret (v := .tuple #[.agg #[.slice (some ⟨gk, 0, none⟩) n n, .slice (some ⟨gp, 0, none⟩) n n, .slice AR rms.length cR], .bool false]) (by simp [results, Try.results67, go_sem, r0, r1, r2]) rfl ?_
      exact Divides.fin D.out (by simp) (by simp) hn HR.out ⟨fun h => (by cases h), fun h => absurd h.len hlen⟩ (fun h => (by cases h)) _ _ _
    have lR2 : rms.length ≤ 4096 := by omega
    have HL := Lib.hid hlen
    have hlen' : ((kept.length : Int) + (rms.length : Int) == (n : Int)) = true := by simp; omega
    have hlen2 : ((kept.length : Int) + (rms.length : Int) != (n : Int)) = false := by simp; omega
    clear hlen
    go_wp2
    go_loopw [35] (fun i wr => ∃ (k : Nat) (kp : List Bool) (pl : List Int), k ≤ kept.length ∧ i = .int .i64 k ∧ Hid (DivS w wr g gk gp n kp pl (.slice AR rms.length cR)) ∧ Hid (Marks n kept k kp pl)) (fun i _ => kept.length - (intOf i).toNat)
    case atStart => exact ⟨0, _, _, by omega, rfl, D, Marks.start n kept⟩
    case round =>
      obtain ⟨k, kp, pl, hk, rfl, D2, M⟩ := hrel
      clear D
      have q0 : wr.cell? ⟨g, 0, none⟩ = some (.slice (some ⟨gk, 0, none⟩) n n) := D2.out.bg.cell 0
      have q1 : wr.cell? ⟨g, 1, none⟩ = some (.slice (some ⟨gp, 0, none⟩) n n) := D2.out.bg.cell 1
      have ngk : ¬ g = gk := D2.out.bg.ne_ D2.out.bk (by decide)
      have ngp : ¬ g = gp := D2.out.bg.ne_ D2.out.bp (by decide)
      have nkp : ¬ gk = gp := D2.out.bk.ne_ D2.out.bp (by decide)
      have BD2 := Lib.hid D2.out.below
      by_cases hlt : k < kept.length
      · obtain ⟨b, off, x, hAK, hb, hx, hcx⟩ := IntsAt.at (HK.out.below IntE.stays BD2.out) hlt
        have hxn := S.out k x hlt hx
        obtain ⟨i, rfl⟩ := Int.eq_ofNat_of_zero_le hxn.1
        have hin : i < n := by have := hxn.2.1; omega
        clear hxn
        subst hAK
        obtain ⟨y1, hkp⟩ : ∃ y, kp[i]? = some y := ⟨_, List.getElem?_eq_getElem (by have := M.out.lk; omega)⟩
        obtain ⟨y2, hpl⟩ : ∃ y, pl[i]? = some y := ⟨_, List.getElem?_eq_getElem (by have := M.out.lp; omega)⟩
        have k0 := D2.out.kcell hkp
        have p0 := D2.out.pcell hpl
        have kf := D2.out.bk.free i
        have pf := D2.out.bp.free i
        clear hkp hpl
        have HX := Lib.hid hx
        clear hx
        go_wp2
        go_region
        go_wp2
        go_roundw
        case rel => exact ⟨k + 1, _, _, by omega, by go_num, ((D2.out.setK i true).setP i k).drew, M.out.step HX.out hin S.out.incr⟩
        case measure => simp [intOf]; omega
      obtain rfl : k = kept.length := by omega
      have HI := Lib.hid (fun (i : Nat) (hi : i < n) => M.out.iff hi)
      go_wp2
      go_loopw [52] (fun i wr => ∃ (m : Nat) (pl : List Int), m ≤ rms.length ∧ i = .int .i64 m ∧ Hid (DivS w wr g gk gp n kp pl (.slice AR rms.length cR)) ∧ Hid (Places n kept rms m kp pl) ∧ Hid (∀ j, j < m → rmOk n kept rms j)) (fun i _ => rms.length - (intOf i).toNat)
      case atStart => exact ⟨0, pl, by omega, rfl, D2, Places.start M.out, fun j h => absurd h (by omega)⟩
      case round =>
        obtain ⟨m, pl, hm, rfl, D3, PL, OK⟩ := hrel
        clear D2 q0 q1 BD2
        rename_i wr0 wr
        have BD3 := Lib.hid D3.out.below
        have q0 : wr.cell? ⟨g, 0, none⟩ = some (.slice (some ⟨gk, 0, none⟩) n n) := D3.out.bg.cell 0
        have q1 : wr.cell? ⟨g, 1, none⟩ = some (.slice (some ⟨gp, 0, none⟩) n n) := D3.out.bg.cell 1
        have q2 : wr.cell? ⟨g, 2, none⟩ = some (.slice AR rms.length cR) := D3.out.bg.cell 2
        by_cases hlt : m < rms.length
        · obtain ⟨r, hr⟩ : ∃ r, rms[m]? = some r := ⟨_, List.getElem?_eq_getElem hlt⟩
          obtain ⟨b, off, hAR, hb, e0, e1, e2, e3⟩ := RmsAt.get (HR.out.below RmE.stays BD3.out) hr
          subst hAR
          have hbg : g < wr.heap.size := D3.out.bg.lt
          have hbk : gk < wr.heap.size := D3.out.bk.lt
          have hbp : gp < wr.heap.size := D3.out.bp.lt
          have hb6 : w.heap.size < wr.heap.size := by have := D3.out.lg; omega
          have HRR := Lib.hid hr
          clear hr
          obtain ⟨st, rank, reason, ev⟩ := r
          dsimp only at e0 e1 e2 e3
          go_wp2_with fail
          go_upto_region 12 with fail
          go_cut [93] (fun c wx => ∃ bb : Bool, c = .bool bb ∧ Hid (bb = false ↔ rmOk n kept rms m) ∧ ∃ q, wx = (wr.alloc (.cells #[.int .i64 st, .int .i64 rank, .int .i64 reason, .int .i64 ev] 83)).drewN q)
          case first =>
            by_cases g1 : st < 0
            · go_quiet (fail)
              go_wp2_with fail
              go_meet
              exact ⟨true, rfl, ⟨fun h => (by cases h), fun h => absurd (h _ HRR.out) (by simp only; omega)⟩, _, rfl⟩
            obtain ⟨i, rfl⟩ := Int.eq_ofNat_of_zero_le (show 0 ≤ st by omega)
            by_cases g2 : n ≤ i
            · go_quiet (fail)
              go_wp2_with fail
              go_meet
              exact ⟨true, rfl, ⟨fun h => (by cases h), fun h => absurd (h _ HRR.out) (by simp only; omega)⟩, _, rfl⟩
            have g2' : decide (n ≤ i) = false := by simpa using g2
            have g3' : i < n := by omega
            obtain ⟨y1, hkp⟩ : ∃ y, kp[i]? = some y := ⟨_, List.getElem?_eq_getElem (by have := PL.out.lk; omega)⟩
            have k0 := D3.out.kcell hkp
            have HII := Lib.hid (HI.out i g3')
            have HKP := Lib.hid hkp
            clear hkp
            cases y1 with
            | true =>
              have NK := Lib.hid (HII.out.1.1 HKP.out)
              go_quiet (fail)
              go_wp2_with fail
              go_meet
              exact ⟨true, rfl, ⟨fun h => (by cases h), fun h => absurd (h _ HRR.out) (by exact fun h => h.2.2.1 NK.out)⟩, _, rfl⟩
            | false =>
              have NK := Lib.hid (HII.out.2.1 HKP.out)
              by_cases hm0 : m = 0
              · subst hm0
                go_quiet (fail)
                go_wp2_with fail
                go_meet
                refine ⟨_, rfl, ?_, _, rfl⟩
                rw [decide_eq_false_iff_not]
                exact ⟨fun h r hr => by
                  rw [HRR.out] at hr; cases hr
                  exact ⟨by simp only; omega, by simp only; omega, NK.out, by simp only; omega, fun _ h => absurd h (by omega)⟩, fun h => by have := (h _ HRR.out).2.2.2.1; simp only at this; omega⟩
              · obtain ⟨y, hy⟩ : ∃ y, rms[m - 1]? = some y := ⟨_, List.getElem?_eq_getElem (by omega)⟩
                obtain ⟨b', off', hA', _, y0, _, _, _⟩ := RmsAt.get (HR.out.below RmE.stays BD3.out) hy
                cases hA'
                obtain ⟨yst, yrank, yreason, yev⟩ := y
                dsimp only at y0
                have HY := Lib.hid hy
                clear hy
                have hm1 : 0 < m := by omega
                by_cases g4 : (i : Int) ≤ yst
                · have g4' : decide ((i : Int) ≤ yst) = true := by simpa using g4
                  go_quiet (fail)
                  go_wp2_with fail
                  go_meet
                  exact ⟨true, rfl, ⟨fun h => (by cases h), fun h => absurd (h _ HRR.out) (by exact fun h => by have := h.2.2.2.2 _ hm1 HY.out; simp only at this; omega)⟩, _, rfl⟩
                · have g4' : decide ((i : Int) ≤ yst) = false := by simpa using g4
                  go_quiet (fail)
                  go_wp2_with fail
                  go_meet
                  refine ⟨_, rfl, ?_, _, rfl⟩
                  rw [decide_eq_false_iff_not]
                  exact ⟨fun h r hr => by
                    rw [HRR.out] at hr; cases hr
                    exact ⟨by simp only; omega, by simp only; omega, NK.out, by simp only; omega, fun r' _ h => by rw [HY.out] at h; cases h; simp only; omega⟩, fun h => by have := (h _ HRR.out).2.2.2.1; simp only at this; omega⟩
          case rest =>
            obtain ⟨bb, rfl, HB, q, rfl⟩ := hcut
            have D4 := Lib.hid (D3.out.newD (.cells #[.int .i64 st, .int .i64 rank, .int .i64 reason, .int .i64 ev] 83) q)
            cases bb with
            | true =>
              obtain ⟨x0, x1, x2, hb6⟩ := D4.out.b6
              have p0 := hb6.cell 0
              have p1 := hb6.cell 1
              have p2 := hb6.cell 2
              have f0 := hb6.free 0
              have f1 := hb6.free 1
              have f2 := hb6.free 2
              have HB6 := Lib.hid hb6
              clear hb6
              have NO := Lib.hid (show ¬ DivOk n kept rms from fun h => by have := HB.out.2 (h.hr m hlt); cases this)
              go_wp2
              have hb7 := HB6.out.set3 (.slice (some ⟨gk, 0, none⟩) n n) (.slice (some ⟨gp, 0, none⟩) n n) (.slice (some ⟨b, off, none⟩) rms.length cR)
              have r0 := hb7.cell 0
              have r1 := hb7.cell 1
              have r2 := hb7.cell 2
              refine bodyPost_ret (v := .tuple #[.agg #[.slice (some ⟨gk, 0, none⟩) n n, .slice (some ⟨gp, 0, none⟩) n n, .slice (some ⟨b, off, none⟩) rms.length cR], .bool false]) (by simp [results, Try.results67, go_sem, r0, r1, r2]) rfl ?_
              exact Divides.fin D4.out PL.out.lk PL.out.lp hn HR.out ⟨fun h => (by cases h), fun h => absurd h NO.out⟩ (fun h => (by cases h)) _ _ _
            | false =>
              have OKM := Lib.hid (HB.out.1 rfl)
              have OKR := OKM.out _ HRR.out
              simp only at OKR
              obtain ⟨i, rfl⟩ := Int.eq_ofNat_of_zero_le OKR.1
              have hin : i < n := by have := OKR.2.1; omega
              have NK := Lib.hid OKR.2.2.1
              clear OKR
              obtain ⟨y2, hpl⟩ : ∃ y, pl[i]? = some y := ⟨_, List.getElem?_eq_getElem (by have := PL.out.lp; omega)⟩
              have c0 := D4.out.pcell hpl
              have cf := D4.out.bp.free i
              clear hpl
              have INC := Lib.hid (show ∀ (j : Nat) (x : Rm), j < m → rms[j]? = some x → x.st < (i : Int) from fun j => by
                have hall : ∀ t, t ≤ m → rmOk n kept rms t := fun t ht => by
                  by_cases e : t = m
                  · subst e; exact OKM.out
                  · exact OK.out t (by omega)
                have key : ∀ (t : Nat) (x z : Rm), j + 1 + t ≤ m → rms[j]? = some x → rms[j + 1 + t]? = some z → x.st < z.st := fun t => by
                  induction t with
                  | zero => exact fun x z ht hx hz => (hall (j + 1) ht z hz).2.2.2.2 x (by omega) hx
                  | succ t ih =>
                    intro x z ht hx hz
                    have hl := (List.getElem?_eq_some_iff.1 hz).1
                    have h1 := ih x rms[j + 1 + t] (by omega) hx (List.getElem?_eq_getElem (by omega))
                    have h2 := (hall (j + 1 + (t + 1)) ht z hz).2.2.2.2 rms[j + 1 + t] (by omega) (List.getElem?_eq_getElem (by omega))
                    omega
                intro x hj hx
                have := key (m - j - 1) x _ (by omega) hx (by rw [show j + 1 + (m - j - 1) = m by omega]; exact HRR.out)
                simpa using this)
              go_wp2
              go_roundw
              case rel => exact ⟨m + 1, _, by omega, by go_num, D4.out.setP i m, PL.out.step HRR.out rfl hin NK.out INC.out, fun j hj => by
                by_cases e : j = m
                · subst e; exact OKM.out
                · exact OK.out j (by omega)⟩
              case measure => simp [intOf]; omega
        · obtain rfl : m = rms.length := by omega
          have DO := Lib.hid (show DivOk n kept rms from ⟨S.out, HL.out, fun j hj => OK.out j hj⟩)
          have FIN := Lib.hid (Sp.of_places DO.out HI.out PL.out)
          obtain ⟨x0, x1, x2, hb6⟩ := D3.out.b6
          have p0 := hb6.cell 0
          have p1 := hb6.cell 1
          have p2 := hb6.cell 2
          have f0 := hb6.free 0
          have f1 := hb6.free 1
          have f2 := hb6.free 2
          have HB6 := Lib.hid hb6
          clear hb6
          go_wp2
          have hb7 := HB6.out.set3 (.slice (some ⟨gk, 0, none⟩) n n) (.slice (some ⟨gp, 0, none⟩) n n) (.slice AR rms.length cR)
          have r0 := hb7.cell 0
          have r1 := hb7.cell 1
          have r2 := hb7.cell 2
          refine bodyPost_ret (v := .tuple #[.agg #[.slice (some ⟨gk, 0, none⟩) n n, .slice (some ⟨gp, 0, none⟩) n n, .slice AR rms.length cR], .bool true]) (by simp [results, Try.results67, go_sem, r0, r1, r2]) rfl ?_
          exact Divides.fin D3.out PL.out.lk PL.out.lp hn HR.out ⟨fun _ => DO.out, fun _ => rfl⟩ (fun _ => FIN.out) _ _ _
end Go.Proofs.Ytkbmenpggiojeaa
