/-
  The checker's look at a removal.
-/
import Derived.Test.YtkbmenpggiojeaaKi
import Derived.Test.YtkbmenpggiojeaaKj
namespace Go.Proofs.Ytkbmenpggiojeaa
open Go.RowKit
set_option linter.unusedSimpArgs false
set_option linter.unusedVariables false

def removes1P (rm : List Rm) (r : Rm) (x : Ed) : Prop := x.ev = r.ev ∧ lowerP rm x.dst r.rank
def removes2P (rm : List Rm) (r : Rm) (x : Ed) : Prop := ¬ lowerP rm x.dst r.rank ∧ ¬ alikeP rm x.dst r.rank
def removesP (forb unc mr : List Int) (rm : List Rm) (es : List Ed) (r : Rm) : Prop :=
  (r.reason = 1 ∧ r.ev = -1 ∧ r.st ∈ forb) ∨ (r.reason = 2 ∧ r.ev ∈ unc ∧ ∃ x, x ∈ es ∧ removes1P rm r x) ∨ (r.reason = 3 ∧ r.ev = -1 ∧ r.st ∉ mr ∧ ¬ ∃ x, x ∈ es ∧ removes2P rm r x)

section
variable (w : World) (bs br : Nat) (s : Sp) (p : SpP) (n : Nat) (kept : List Int) (r : Rm) (es : List Ed)
  (h : Sp.At w s p) (ho : s.Of n kept) (hx : ∀ (i : Nat) r, r ∈ s.rm → r.st = (i : Int) → s.kp[i]? = some false)
  (c0 : w.cell? ⟨bs, 0, none⟩ = some (.slice p.Ak s.kp.length p.ck)) (c1 : w.cell? ⟨bs, 1, none⟩ = some (.slice p.Ap s.pl.length p.cp)) (c2 : w.cell? ⟨bs, 2, none⟩ = some (.slice p.Ar s.rm.length p.cr)) (hbs : bs < w.heap.size)
  (r1 : w.cell? ⟨br, 1, none⟩ = some (.int .i64 r.rank)) (r3 : w.cell? ⟨br, 3, none⟩ = some (.int .i64 r.ev)) (hbr : br < w.heap.size)
  (hes : ∀ x, x ∈ es → 0 ≤ x.dst ∧ x.dst < n)
include h ho hx c0 c1 c2 hbs r1 hbr hes
theorem pred4 : PredOn Try.prog 98 #[.pointer (some ⟨bs, 0, none⟩), .pointer (some ⟨br, 0, none⟩)] Ed.enc (removes2P s.rm r) es w := by
  intro W x hm hb
  obtain ⟨g0, g1⟩ := hes x hm
  obtain ⟨src, ev, dst⟩ := x
  simp only at g0 g1
  obtain ⟨t, rfl⟩ := Int.eq_ofNat_of_zero_le g0
  exact removes2_c bs br s p n kept src ev t r.rank W (h.below hb) ho (by omega) (hx t) (old_cell hb c0 hbs) (old_cell hb c1 hbs) (old_cell hb c2 hbs) (Nat.lt_of_lt_of_le hbs hb.size) (old_cell hb r1 hbr) (Nat.lt_of_lt_of_le hbr hb.size)
include r3
theorem pred3 : PredOn Try.prog 96 #[.pointer (some ⟨br, 0, none⟩), .pointer (some ⟨bs, 0, none⟩)] Ed.enc (removes1P s.rm r) es w := by
  intro W x hm hb
  obtain ⟨g0, g1⟩ := hes x hm
  obtain ⟨src, ev, dst⟩ := x
  simp only at g0 g1
  obtain ⟨t, rfl⟩ := Int.eq_ofNat_of_zero_le g0
  exact removes1_c bs br s p n kept src ev t r.rank r.ev W (h.below hb) ho (by omega) (hx t) (old_cell hb c0 hbs) (old_cell hb c1 hbs) (old_cell hb c2 hbs) (Nat.lt_of_lt_of_le hbs hb.size) (old_cell hb r1 hbr) (old_cell hb r3 hbr) (Nat.lt_of_lt_of_le hbr hb.size)
end

set_option maxHeartbeats 600000 in
theorem removes_c (au : Au) (forb unc : List Int) (p : PrP) (s : Sp) (sp : SpP) (AE : Option Addr) (cE : Nat) (es : List Ed) (r : Rm) (w : World)
    (hp : PrAt w au forb unc p) (hs : Sp.At w s sp) (n : Nat) (kept : List Int) (ho : s.Of n kept) (hx : ∀ (i : Nat) r, r ∈ s.rm → r.st = (i : Int) → s.kp[i]? = some false) (hE : EdsAt w AE es) (lE : es.length ≤ 140737488355328) (hif : incr forb) (hiu : incr unc) (him : incr au.mr)
    (hes : ∀ x, x ∈ es → 0 ≤ x.dst ∧ x.dst < n) :
    Calls Try.prog 69 #[prVal au forb unc p, s.val sp, .slice AE es.length cE, .agg #[.int .i64 r.st, .int .i64 r.rank, .int .i64 r.reason, .int .i64 r.ev]] w (Tells (removesP forb unc au.mr s.rm es r) w) := by
  obtain ⟨kp, pl, rm⟩ := s
  obtain ⟨Ak, ck, Ap, cp, Ar, cr⟩ := sp
  obtain ⟨al, m, mr, ed⟩ := au
  obtain ⟨⟨A1, c1, A2, c2, A3, c3⟩, AF, cF, AU, cU⟩ := p
  obtain ⟨st, rank, reason, ev⟩ := r
  have HP := Lib.hid hp
  have HS := Lib.hid hs
  have HE := Lib.hid hE
  have HF := Lib.hid hif
  have HU := Lib.hid hiu
  have HM := Lib.hid him
  have HX := Lib.hid hes
  have HO := Lib.hid ho
  have HXX := Lib.hid hx
  have lf : forb.length ≤ 140737488355328 := hp.lf
  have lu : unc.length ≤ 140737488355328 := hp.lu
  have lm : mr.length ≤ 140737488355328 := hp.au.lmk
  clear hp hs hE hif hiu him hes ho hx
  dsimp only [Sp.val, prVal, prCells] at *
  have B0 := Lib.hid (((Below.new w (.cells #[.slice A1 al.length c1, .int .i64 m, .slice A2 mr.length c2, .slice A3 ed.length c3, .slice AF forb.length cF, .slice AU unc.length cU] 78)).alloc (by simp) (.cells #[.slice Ak kp.length ck, .slice Ap pl.length cp, .slice Ar rm.length cr] 133)).alloc (by simp; omega) (.cells #[.int .i64 st, .int .i64 rank, .int .i64 reason, .int .i64 ev] 83))
  obtain ⟨W, hW⟩ : ∃ W, W = (((w.alloc (.cells #[.slice A1 al.length c1, .int .i64 m, .slice A2 mr.length c2, .slice A3 ed.length c3, .slice AF forb.length cF, .slice AU unc.length cU] 78)).alloc (.cells #[.slice Ak kp.length ck, .slice Ap pl.length cp, .slice Ar rm.length cr] 133)).alloc (.cells #[.int .i64 st, .int .i64 rank, .int .i64 reason, .int .i64 ev] 83)) := ⟨_, rfl⟩
  have f2 : W.cell? ⟨w.heap.size, 2, none⟩ = some (.slice A2 mr.length c2) := by rw [hW, alloc_cell _ _ _ _ (by simp only [World.size_alloc]; omega), alloc_cell _ _ _ _ (by simp only [World.size_alloc]; omega), new_cell _ _ [_, _, _, _, _, _] _ _ rfl]; rfl
  have f4 : W.cell? ⟨w.heap.size, 4, none⟩ = some (.slice AF forb.length cF) := by rw [hW, alloc_cell _ _ _ _ (by simp only [World.size_alloc]; omega), alloc_cell _ _ _ _ (by simp only [World.size_alloc]; omega), new_cell _ _ [_, _, _, _, _, _] _ _ rfl]; rfl
  have f5 : W.cell? ⟨w.heap.size, 5, none⟩ = some (.slice AU unc.length cU) := by rw [hW, alloc_cell _ _ _ _ (by simp only [World.size_alloc]; omega), alloc_cell _ _ _ _ (by simp only [World.size_alloc]; omega), new_cell _ _ [_, _, _, _, _, _] _ _ rfl]; rfl
  have s0 : W.cell? ⟨w.heap.size + 1, 0, none⟩ = some (.slice Ak kp.length ck) := by rw [hW, alloc_cell _ _ _ _ (by simp only [World.size_alloc]; omega), new_cell _ _ [_, _, _] _ _ (by simp only [World.size_alloc])]; rfl
  have s1 : W.cell? ⟨w.heap.size + 1, 1, none⟩ = some (.slice Ap pl.length cp) := by rw [hW, alloc_cell _ _ _ _ (by simp only [World.size_alloc]; omega), new_cell _ _ [_, _, _] _ _ (by simp only [World.size_alloc])]; rfl
  have s2 : W.cell? ⟨w.heap.size + 1, 2, none⟩ = some (.slice Ar rm.length cr) := by rw [hW, alloc_cell _ _ _ _ (by simp only [World.size_alloc]; omega), new_cell _ _ [_, _, _] _ _ (by simp only [World.size_alloc])]; rfl
  have r0 : W.cell? ⟨w.heap.size + 2, 0, none⟩ = some (.int .i64 st) := by rw [hW, new_cell _ _ [_, _, _, _] _ _ (by simp only [World.size_alloc])]; rfl
  have r1 : W.cell? ⟨w.heap.size + 2, 1, none⟩ = some (.int .i64 rank) := by rw [hW, new_cell _ _ [_, _, _, _] _ _ (by simp only [World.size_alloc])]; rfl
  have r2 : W.cell? ⟨w.heap.size + 2, 2, none⟩ = some (.int .i64 reason) := by rw [hW, new_cell _ _ [_, _, _, _] _ _ (by simp only [World.size_alloc])]; rfl
  have r3 : W.cell? ⟨w.heap.size + 2, 3, none⟩ = some (.int .i64 ev) := by rw [hW, new_cell _ _ [_, _, _, _] _ _ (by simp only [World.size_alloc])]; rfl
  have hsz : w.heap.size + 2 < W.heap.size := by rw [hW]; simp only [World.size_alloc]; omega
  have z0 : w.heap.size < W.heap.size := by omega
  have z1 : w.heap.size + 1 < W.heap.size := by omega
  rw [← hW] at B0
  by_cases h1 : reason = 1
  · subst h1
    by_cases he : ev = -1
    · subst he
      go_enter Try.func69, Try.ntmps69
      go_wp2_with fail
      rw [← hW]
      clear hW
      refine (has_c AF cF forb st _ (HP.out.hf.below IntE.stays B0.out) (by omega) HF.out).mono ?_
      rintro e w2 ⟨r, rfl, hr, rfl⟩
      have HR := Lib.hid hr
      clear hr
      go_wp2
      go_ret
      exact ⟨r, rfl, by rw [HR.out]; simp [removesP], B0.out⟩
    · have he' : (ev == -1) = false := by simpa using he
      go_enter Try.func69, Try.ntmps69
      go_wp2
      go_ret
      exact ⟨_, rfl, by simp [removesP, he], by first | exact B0.out | (rw [← hW]; exact B0.out)⟩
  have h1' : (reason == 1) = false := by simpa using h1
  by_cases h2 : reason = 2
  · subst h2
    go_enter Try.func69, Try.ntmps69
    go_wp2_with fail
    rw [← hW]
    clear hW
    refine (has_c AU cU unc ev _ (HP.out.hu.below IntE.stays B0.out) (by omega) HU.out).mono ?_
    intro e w1 hs
    rcases hs.no1 with ⟨rfl, S, rfl⟩ | ⟨rfl, S, rfl⟩
    · go_wp2
      go_ret
      exact Tells.no (fun h => by simp [removesP] at h; exact S.out h.1) B0.out
    go_wp2_with fail
    refine (containsE_c 96 _ (enters_of Try.func96 (by kernel_rfl) rfl) (removes1P rm ⟨st, rank, 2, ev⟩) AE cE es W (HE.out.below EdE.stays B0.out) lE
      (pred3 W (w.heap.size + 1) (w.heap.size + 2) ⟨kp, pl, rm⟩ ⟨Ak, ck, Ap, cp, Ar, cr⟩ n kept ⟨st, rank, 2, ev⟩ es (HS.out.below B0.out) HO.out HXX.out s0 s1 s2 z1 r1 r3 hsz HX.out)).mono ?_
    rintro e w2 ⟨r, rfl, hr, hb2⟩
    have HR := Lib.hid hr
    clear hr
    go_wp2
    go_ret
    exact ⟨r, rfl, by rw [HR.out]; simp [removesP, S.out], B0.out.trans (hb2.mono (by omega))⟩
  have h2' : (reason == 2) = false := by simpa using h2
  by_cases h3 : reason = 3
  · subst h3
    by_cases he : ev = -1
    · subst he
      go_enter Try.func69, Try.ntmps69
      go_wp2_with fail
      rw [← hW]
      clear hW
      refine (has_c A2 c2 mr st _ (HP.out.au.mr.below IntE.stays B0.out) (by omega) HM.out).mono ?_
      intro e w1 hs
      rcases hs.yes1 with ⟨rfl, S, rfl⟩ | ⟨rfl, S, rfl⟩
      · go_wp2
        go_ret
        exact Tells.no (fun h => by simp [removesP] at h; exact h.1 S.out) B0.out
      go_wp2_with fail
      refine (containsE_c 98 _ (enters_of Try.func98 (by kernel_rfl) rfl) (removes2P rm ⟨st, rank, 3, -1⟩) AE cE es W (HE.out.below EdE.stays B0.out) lE
        (pred4 W (w.heap.size + 1) (w.heap.size + 2) ⟨kp, pl, rm⟩ ⟨Ak, ck, Ap, cp, Ar, cr⟩ n kept ⟨st, rank, 3, -1⟩ es (HS.out.below B0.out) HO.out HXX.out s0 s1 s2 z1 r1 hsz HX.out)).mono ?_
      rintro e w2 ⟨r, rfl, hr, hb2⟩
      have HR := Lib.hid hr
      clear hr
      go_wp2
      go_ret
      refine ⟨!r, rfl, ?_, B0.out.trans (hb2.mono (by omega))⟩
      have h5 := HR.out
      cases r
      · have : ¬ ∃ x, x ∈ es ∧ removes2P rm ⟨st, rank, 3, -1⟩ x := fun h => by simpa using h5.2 h
        exact ⟨fun _ => .inr (.inr ⟨rfl, rfl, S.out, this⟩), fun _ => rfl⟩
      · have := h5.1 rfl
        simp only [Bool.not_true, Bool.false_eq_true, false_iff]
        rintro (⟨h, _⟩ | ⟨h, _⟩ | ⟨_, _, _, h⟩)
        · cases h
        · cases h
        · exact h this
    · have he' : (ev == -1) = false := by simpa using he
      go_enter Try.func69, Try.ntmps69
      go_wp2
      go_ret
      exact ⟨_, rfl, by simp [removesP, he], by first | exact B0.out | (rw [← hW]; exact B0.out)⟩
  · have h3' : (reason == 3) = false := by simpa using h3
    go_enter Try.func69, Try.ntmps69
    go_wp2
    go_ret
    exact Tells.no (fun h => by rcases h with ⟨h, _⟩ | ⟨h, _⟩ | ⟨h, _⟩ <;> contradiction) (by first | exact B0.out | (rw [← hW]; exact B0.out))
end Go.Proofs.Ytkbmenpggiojeaa
