/-
  The checker's look at a removal: its function values.
-/
import Derived.Test.YtkbmenpggiojeaaKg
namespace Go.Proofs.Ytkbmenpggiojeaa
open Go.RowKit
set_option linter.unusedSimpArgs false
set_option linter.unusedVariables false

set_option maxHeartbeats 400000 in
theorem removes1_c (bs br : Nat) (s : Sp) (p : SpP) (n : Nat) (kept : List Int) (src ev : Int) (dst : Nat) (rank rev : Int) (w : World) (h : Sp.At w s p) (ho : s.Of n kept) (hi : dst < n) (hx : ∀ r, r ∈ s.rm → r.st = (dst : Int) → s.kp[dst]? = some false)
    (c0 : w.cell? ⟨bs, 0, none⟩ = some (.slice p.Ak s.kp.length p.ck)) (c1 : w.cell? ⟨bs, 1, none⟩ = some (.slice p.Ap s.pl.length p.cp)) (c2 : w.cell? ⟨bs, 2, none⟩ = some (.slice p.Ar s.rm.length p.cr)) (hbs : bs < w.heap.size)
    (r1 : w.cell? ⟨br, 1, none⟩ = some (.int .i64 rank)) (r3 : w.cell? ⟨br, 3, none⟩ = some (.int .i64 rev)) (hbr : br < w.heap.size) :
    Calls Try.prog 96 #[.agg #[.int .i64 src, .int .i64 ev, .int .i64 dst], .pointer (some ⟨br, 0, none⟩), .pointer (some ⟨bs, 0, none⟩)] w (Tells (ev = rev ∧ lowerP s.rm dst rank) w) := by
  have HC := Lib.hid (lower_c s p n kept dst rank (w.alloc (.cells #[.int .i64 src, .int .i64 ev, .int .i64 dst] 73)) (h.below (Below.new _ _)) ho hi hx)
  clear h ho hi hx
  obtain ⟨kp, pl, rm⟩ := s
  obtain ⟨Ak, ck, Ap, cp, Ar, cr⟩ := p
  dsimp only [Sp.val] at *
  by_cases he : ev = rev
  · subst he
    go_enter Try.func96, Try.ntmps96
    go_wp2_with fail
    refine HC.out.mono ?_
    rintro e w1 ⟨r, rfl, hr, hb⟩
    have HR := Lib.hid hr
    clear hr
    go_wp2
    go_ret
    exact ⟨r, rfl, by rw [HR.out]; simp, (Below.new _ _).trans (hb.mono (by simp))⟩
  · have he' : (ev == rev) = false := by simpa using he
    go_enter Try.func96, Try.ntmps96
    go_wp2
    go_ret
    exact ⟨_, rfl, by simp [he], Below.new _ _⟩

set_option maxHeartbeats 400000 in
theorem removes2_c (bs br : Nat) (s : Sp) (p : SpP) (n : Nat) (kept : List Int) (src ev : Int) (dst : Nat) (rank : Int) (w : World) (h : Sp.At w s p) (ho : s.Of n kept) (hi : dst < n) (hx : ∀ r, r ∈ s.rm → r.st = (dst : Int) → s.kp[dst]? = some false)
    (c0 : w.cell? ⟨bs, 0, none⟩ = some (.slice p.Ak s.kp.length p.ck)) (c1 : w.cell? ⟨bs, 1, none⟩ = some (.slice p.Ap s.pl.length p.cp)) (c2 : w.cell? ⟨bs, 2, none⟩ = some (.slice p.Ar s.rm.length p.cr)) (hbs : bs < w.heap.size)
    (r1 : w.cell? ⟨br, 1, none⟩ = some (.int .i64 rank)) (hbr : br < w.heap.size) :
    Calls Try.prog 98 #[.agg #[.int .i64 src, .int .i64 ev, .int .i64 dst], .pointer (some ⟨bs, 0, none⟩), .pointer (some ⟨br, 0, none⟩)] w (Tells (¬ lowerP s.rm dst rank ∧ ¬ alikeP s.rm dst rank) w) := by
  have HC := Lib.hid (lower_c s p n kept dst rank (w.alloc (.cells #[.int .i64 src, .int .i64 ev, .int .i64 dst] 73)) (h.below (Below.new _ _)) ho hi hx)
  have HD := Lib.hid (fun w1 (hb : Below (w.heap.size + 1) (w.alloc (.cells #[.int .i64 src, .int .i64 ev, .int .i64 dst] 73)) w1) => alike_c s p n kept dst rank w1 ((h.below (Below.new _ _)).below (by simpa using hb)) ho hi hx)
  clear h ho hi hx
  obtain ⟨kp, pl, rm⟩ := s
  obtain ⟨Ak, ck, Ap, cp, Ar, cr⟩ := p
  dsimp only [Sp.val] at *
  go_enter Try.func98, Try.ntmps98
  go_wp2_with fail
  refine HC.out.mono ?_
  intro e w1 hs
  rcases hs.yes1 with ⟨rfl, S, hb⟩ | ⟨rfl, S, hb⟩
  · go_wp2
    go_ret
    exact Tells.no (fun h => h.1 S.out) ((Below.new _ _).trans (hb.mono (by simp)))
  · have hb1 : Below (w.heap.size + 1) (w.alloc (.cells #[.int .i64 src, .int .i64 ev, .int .i64 dst] 73)) w1 := by simpa using hb
    have HB := Lib.hid hb1
    have q0 : w1.cell? ⟨bs, 0, none⟩ = some (.slice Ak kp.length ck) := (hb1.cell (p := ⟨bs, 0, none⟩) (Nat.lt_succ_of_lt hbs)).trans ((World.cell?_alloc_lt w _ ⟨bs, _, none⟩ hbs).trans c0)
    have q1 : w1.cell? ⟨bs, 1, none⟩ = some (.slice Ap pl.length cp) := (hb1.cell (p := ⟨bs, 1, none⟩) (Nat.lt_succ_of_lt hbs)).trans ((World.cell?_alloc_lt w _ ⟨bs, _, none⟩ hbs).trans c1)
    have q2 : w1.cell? ⟨bs, 2, none⟩ = some (.slice Ar rm.length cr) := (hb1.cell (p := ⟨bs, 2, none⟩) (Nat.lt_succ_of_lt hbs)).trans ((World.cell?_alloc_lt w _ ⟨bs, _, none⟩ hbs).trans c2)
    have q3 : w1.cell? ⟨br, 1, none⟩ = some (.int .i64 rank) := (hb1.cell (p := ⟨br, 1, none⟩) (Nat.lt_succ_of_lt hbr)).trans ((World.cell?_alloc_lt w _ ⟨br, _, none⟩ hbr).trans r1)
    have q4 : w1.cell? ⟨w.heap.size, 2, none⟩ = some (.int .i64 (dst : Int)) := (hb1.cell (p := ⟨w.heap.size, 2, none⟩) (by simp)).trans (by simp)
    clear hb hb1
    go_wp2_with fail
    refine (HD.out w1 HB.out).mono ?_
    rintro e w2 ⟨r, rfl, hr, hb2⟩
    have HR := Lib.hid hr
    clear hr
    go_wp2
    go_ret
    have h1 := HB.out.size
    simp at h1
    refine ⟨!r, rfl, ?_, (Below.new _ _).trans ((HB.out.mono (by omega)).trans (hb2.mono (by omega)))⟩
    have := HR.out
    cases r <;> simp_all [S.out]
end Go.Proofs.Ytkbmenpggiojeaa
