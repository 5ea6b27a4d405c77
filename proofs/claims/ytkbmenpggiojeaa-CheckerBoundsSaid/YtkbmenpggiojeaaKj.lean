/-
  The checker's look at a kept state.
-/
import Derived.Test.YtkbmenpggiojeaaKh
import Derived.Test.YtkbmenpggiojeaaKp
namespace Go.Proofs.Ytkbmenpggiojeaa
open Go.RowKit
set_option linter.unusedSimpArgs false
set_option linter.unusedVariables false

/-- Where the lists of a problem lie. -/
structure PrP where
  a : AuP
  AF : Option Addr
  cF : Nat
  AU : Option Addr
  cU : Nat
abbrev prCells (au : Au) (forb unc : List Int) (p : PrP) : Array Value := #[.slice p.a.A1 au.al.length p.a.c1, .int .i64 au.n, .slice p.a.A2 au.mr.length p.a.c2, .slice p.a.A3 au.ed.length p.a.c3, .slice p.AF forb.length p.cF, .slice p.AU unc.length p.cU]
abbrev prVal (au : Au) (forb unc : List Int) (p : PrP) : Value := .agg (prCells au forb unc p)
structure PrAt (w : World) (au : Au) (forb unc : List Int) (p : PrP) : Prop where
  au : Au.At w au p.a
  hf : IntsAt w p.AF forb
  hu : IntsAt w p.AU unc
  lf : forb.length ≤ 140737488355328
  lu : unc.length ≤ 140737488355328
theorem PrAt.below {w w' : World} {au : Au} {forb unc : List Int} {p : PrP} (h : PrAt w au forb unc p) (hb : Below w.heap.size w w') : PrAt w' au forb unc p :=
  ⟨h.au.below hb, h.hf.below IntE.stays hb, h.hu.below IntE.stays hb, h.lf, h.lu⟩

def keeps1P (kp : List Bool) (unc : List Int) (x : Ed) : Prop := kp[x.dst.toNat]? = some false ∧ x.ev ∈ unc
def keeps2P (kp : List Bool) (pl dist : List Int) (d : Int) (x : Ed) : Prop := kp[x.dst.toNat]? = some true ∧ ∃ (k : Nat) (d1 : Int), pl[x.dst.toNat]? = some (k : Int) ∧ dist[k]? = some d1 ∧ d1 < d
def keepsP (forb unc mr : List Int) (kp : List Bool) (pl dist : List Int) (es : List Ed) (i d : Int) : Prop :=
  i ∉ forb ∧ (¬ ∃ x, x ∈ es ∧ keeps1P kp unc x) ∧ (d = 0 → i ∈ mr) ∧ (d ≠ 0 → 0 < d ∧ ∃ x, x ∈ es ∧ keeps2P kp pl dist d x)

theorem pred1 (w : World) (bs bp : Nat) (Ak : Option Addr) (ck : Nat) (kp : List Bool) (AU : Option Addr) (cU : Nat) (unc : List Int) (es : List Ed) (n : Nat)
    (hs : w.cell? ⟨bs, 0, none⟩ = some (.slice Ak kp.length ck)) (hk : BoolsAt w Ak kp) (lk : kp.length ≤ 4096) (hn : kp.length = n) (hbs : bs < w.heap.size)
    (hp : w.cell? ⟨bp, 5, none⟩ = some (.slice AU unc.length cU)) (hu : IntsAt w AU unc) (lu : unc.length ≤ 140737488355328) (hi : incr unc) (hbp : bp < w.heap.size)
    (hes : ∀ x, x ∈ es → 0 ≤ x.dst ∧ x.dst < n) :
    PredOn Try.prog 94 #[.pointer (some ⟨bs, 0, none⟩), .pointer (some ⟨bp, 0, none⟩)] Ed.enc (keeps1P kp unc) es w := by
  intro W x hx hb
  obtain ⟨h0, h1⟩ := hes x hx
  obtain ⟨src, ev, dst⟩ := x
  simp only at h0 h1
  obtain ⟨t, rfl⟩ := Int.eq_ofNat_of_zero_le h0
  have ht : t < kp.length := by omega
  refine (keeps1_c bs bp Ak ck kp AU cU unc src ev t kp[t] W ((hb.cell (p := ⟨bs, 0, none⟩) hbs).trans hs) (hk.below BoolE.stays hb) (List.getElem?_eq_getElem ht) lk (Nat.lt_of_lt_of_le hbs hb.size)
    ((hb.cell (p := ⟨bp, 5, none⟩) hbp).trans hp) (hu.below IntE.stays hb) lu hi (Nat.lt_of_lt_of_le hbp hb.size)).mono ?_
  rintro e w' ⟨r, rfl, hr, hb'⟩
  exact ⟨r, rfl, by rw [hr]; simp [keeps1P, ht], hb'⟩

theorem pred2 (w : World) (bs bd b0 : Nat) (Ak Ap AD : Option Addr) (ck cp cD : Nat) (kp : List Bool) (pl dist : List Int) (d : Int) (es : List Ed) (n : Nat)
    (hs : w.cell? ⟨bs, 0, none⟩ = some (.slice Ak kp.length ck)) (hs1 : w.cell? ⟨bs, 1, none⟩ = some (.slice Ap pl.length cp)) (hk : BoolsAt w Ak kp) (lk : kp.length ≤ 4096) (hn : kp.length = n) (lp : pl.length ≤ 4096) (ld : dist.length ≤ 4096) (hbs : bs < w.heap.size)
    (hd : w.cell? ⟨bd, 0, none⟩ = some (.slice AD dist.length cD)) (hbd : bd < w.heap.size) (hD : IntsAt w AD dist) (hP : IntsAt w Ap pl)
    (h0 : w.cell? ⟨b0, 0, none⟩ = some (.int .i64 d)) (hb0 : b0 < w.heap.size) (hes : ∀ x, x ∈ es → 0 ≤ x.dst ∧ x.dst < n)
    (hpl : ∀ t : Nat, kp[t]? = some true → ∃ k : Nat, pl[t]? = some (k : Int) ∧ k < dist.length) :
    PredOn Try.prog 95 #[.pointer (some ⟨bs, 0, none⟩), .pointer (some ⟨bd, 0, none⟩), .pointer (some ⟨b0, 0, none⟩)] Ed.enc (keeps2P kp pl dist d) es w := by
  intro W x hx hb
  obtain ⟨g0, g1⟩ := hes x hx
  obtain ⟨src, ev, dst⟩ := x
  simp only at g0 g1
  obtain ⟨t, rfl⟩ := Int.eq_ofNat_of_zero_le g0
  have ht : t < kp.length := by omega
  have hkt : kp[t]? = some kp[t] := List.getElem?_eq_getElem ht
  have hex : ∃ (k : Nat) (d1 : Int), (kp[t] = true → pl[t]? = some (k : Int)) ∧ (kp[t] = true → dist[k]? = some d1) := by
    cases hq : kp[t] with
    | false => exact ⟨0, 0, by simp, by simp⟩
    | true =>
      obtain ⟨k, h1, h2⟩ := hpl t (by rw [hkt, hq])
      exact ⟨k, dist[k], fun _ => h1, fun _ => List.getElem?_eq_getElem h2⟩
  obtain ⟨k, d1, hk1, hk2⟩ := hex
  refine (keeps2_c bs bd b0 Ak Ap AD ck cp cD kp pl dist src ev t k d d1 W kp[t] ((hb.cell (p := ⟨bs, 0, none⟩) hbs).trans hs) ((hb.cell (p := ⟨bs, 1, none⟩) hbs).trans hs1) (hk.below BoolE.stays hb) hkt lk lp ld (Nat.lt_of_lt_of_le hbs hb.size)
    ((hb.cell (p := ⟨bd, 0, none⟩) hbd).trans hd) (Nat.lt_of_lt_of_le hbd hb.size) (hD.below IntE.stays hb) (hP.below IntE.stays hb) ((hb.cell (p := ⟨b0, 0, none⟩) hb0).trans h0) (Nat.lt_of_lt_of_le hb0 hb.size) hk1 hk2).mono ?_
  rintro e w' ⟨r, rfl, hr, hb'⟩
  refine ⟨r, rfl, ?_, hb'⟩
  rw [hr]
  simp only [keeps2P, Int.toNat_natCast, hkt, Option.some.injEq]
  constructor
  · rintro ⟨h1, h2⟩; exact ⟨h1, k, d1, hk1 h1, hk2 h1, h2⟩
  · rintro ⟨h1, k', d', h2, h3, h4⟩
    have := hk1 h1
    rw [this] at h2
    simp only [Option.some.injEq] at h2
    have hkk : k' = k := by omega
    subst hkk
    have := hk2 h1
    rw [this] at h3; cases h3
    exact ⟨h1, h4⟩

set_option maxHeartbeats 400000 in
theorem keeps_c (au : Au) (forb unc : List Int) (p : PrP) (s : Sp) (sp : SpP) (AE : Option Addr) (cE : Nat) (es : List Ed) (i k : Nat) (AD : Option Addr) (cD : Nat) (dist : List Int) (d : Int) (w : World)
    (hp : PrAt w au forb unc p) (hs : Sp.At w s sp) (n : Nat) (hn : s.kp.length = n) (hn' : s.pl.length = n) (hE : EdsAt w AE es) (lE : es.length ≤ 140737488355328) (hD : IntsAt w AD dist) (lD : dist.length ≤ 4096) (hif : incr forb) (hiu : incr unc) (him : incr au.mr)
    (hi : i < n) (hpi : s.pl[i]? = some (k : Int)) (hdk : dist[k]? = some d) (hes : ∀ x, x ∈ es → 0 ≤ x.dst ∧ x.dst < n) (hpl : ∀ t : Nat, s.kp[t]? = some true → ∃ k : Nat, s.pl[t]? = some (k : Int) ∧ k < dist.length) :
    Calls Try.prog 68 #[prVal au forb unc p, s.val sp, .slice AE es.length cE, .int .i64 i, .slice AD dist.length cD] w (Tells (keepsP forb unc au.mr s.kp s.pl dist es i d) w) := by
  obtain ⟨kp, pl, rm⟩ := s
  obtain ⟨Ak, ck, Ap, cp, Ar, cr⟩ := sp
  obtain ⟨al, m, mr, ed⟩ := au
  obtain ⟨⟨A1, c1, A2, c2, A3, c3⟩, AF, cF, AU, cU⟩ := p
  have HP := Lib.hid hp
  have HS := Lib.hid hs
  have HE := Lib.hid hE
  have HD := Lib.hid hD
  have HF := Lib.hid hif
  have HU := Lib.hid hiu
  have HM := Lib.hid him
  have HX := Lib.hid hes
  have HPL := Lib.hid hpl
  have HN := Lib.hid hn
  have lf : forb.length ≤ 140737488355328 := hp.lf
  have lu : unc.length ≤ 140737488355328 := hp.lu
  have lm : mr.length ≤ 140737488355328 := hp.au.lmk
  have lk : kp.length ≤ 4096 := hs.lkp
  have lp : pl.length ≤ 4096 := hs.lpl
  have hil : i < pl.length := by simp only at hn'; omega
  have hkl : k < dist.length := (List.getElem?_eq_some_iff.1 hdk).1
  obtain ⟨b2, o2, hA2, l2, e2⟩ := IntsAt.get hs.pl hpi
  obtain ⟨b3, o3, hA3, l3, e3⟩ := IntsAt.get hD hdk
  have HI := Lib.hid hpi
  have HK := Lib.hid hdk
  clear hp hs hE hD hif hiu him hes hpl hn hn' hpi hdk
  dsimp only [Sp.val, prVal, prCells] at *
  subst hA2 hA3
  go_enter Try.func68, Try.ntmps68
  go_wp2_with fail
  have B0 := Lib.hid (((Below.new w (.cells #[.slice A1 al.length c1, .int .i64 m, .slice A2 mr.length c2, .slice A3 ed.length c3, .slice AF forb.length cF, .slice AU unc.length cU] 78)).alloc (by simp) (.cells #[.slice Ak kp.length ck, .slice (some ⟨b2, o2, none⟩) pl.length cp, .slice Ar rm.length cr] 133)).alloc (by simp; omega) (.cells #[.slice (some ⟨b3, o3, none⟩) dist.length cD] 36))
  obtain ⟨W, hW⟩ : ∃ W, W = (((w.alloc (.cells #[.slice A1 al.length c1, .int .i64 m, .slice A2 mr.length c2, .slice A3 ed.length c3, .slice AF forb.length cF, .slice AU unc.length cU] 78)).alloc (.cells #[.slice Ak kp.length ck, .slice (some ⟨b2, o2, none⟩) pl.length cp, .slice Ar rm.length cr] 133)).alloc (.cells #[.slice (some ⟨b3, o3, none⟩) dist.length cD] 36)) := ⟨_, rfl⟩
  have f2 : W.cell? ⟨w.heap.size, 2, none⟩ = some (.slice A2 mr.length c2) := by rw [hW, alloc_cell _ _ _ _ (by simp only [World.size_alloc]; omega), alloc_cell _ _ _ _ (by simp only [World.size_alloc]; omega), new_cell _ _ [_, _, _, _, _, _] _ _ rfl]; rfl
  have f5 : W.cell? ⟨w.heap.size, 5, none⟩ = some (.slice AU unc.length cU) := by rw [hW, alloc_cell _ _ _ _ (by simp only [World.size_alloc]; omega), alloc_cell _ _ _ _ (by simp only [World.size_alloc]; omega), new_cell _ _ [_, _, _, _, _, _] _ _ rfl]; rfl
  have s0 : W.cell? ⟨w.heap.size + 1, 0, none⟩ = some (.slice Ak kp.length ck) := by rw [hW, alloc_cell _ _ _ _ (by simp only [World.size_alloc]; omega), new_cell _ _ [_, _, _] _ _ (by simp only [World.size_alloc])]; rfl
  have s1 : W.cell? ⟨w.heap.size + 1, 1, none⟩ = some (.slice (some ⟨b2, o2, none⟩) pl.length cp) := by rw [hW, alloc_cell _ _ _ _ (by simp only [World.size_alloc]; omega), new_cell _ _ [_, _, _] _ _ (by simp only [World.size_alloc])]; rfl
  have d0 : W.cell? ⟨w.heap.size + 2, 0, none⟩ = some (.slice (some ⟨b3, o3, none⟩) dist.length cD) := by rw [hW, new_cell _ _ [_] _ _ (by simp only [World.size_alloc])]; rfl
  have hsz : w.heap.size + 2 < W.heap.size := by rw [hW]; simp only [World.size_alloc]; omega
  rw [← hW] at B0
  rw [← hW]
  clear hW
  refine (has_c AF cF forb i _ (HP.out.hf.below IntE.stays B0.out) (by omega) HF.out).mono ?_
  intro e w1 hs
  rcases hs.yes1 with ⟨rfl, S, rfl⟩ | ⟨rfl, S, rfl⟩
  · go_wp2
    go_ret
    exact Tells.no (fun h => h.1 S.out) B0.out
  go_wp2_with fail
  refine (containsE_c 94 _ (enters_of Try.func94 (by kernel_rfl) rfl) (keeps1P kp unc) AE cE es W (HE.out.below EdE.stays B0.out) lE
    (pred1 W (w.heap.size + 1) w.heap.size Ak ck kp AU cU unc es n s0 (HS.out.kp.below BoolE.stays B0.out) lk HN.out (by omega) f5 (HP.out.hu.below IntE.stays B0.out) lu HU.out (by omega) HX.out)).mono ?_
  intro e w1 hs
  rcases hs.yes1 with ⟨rfl, S1, hb1⟩ | ⟨rfl, S1, hb1⟩
  · go_wp2
    go_ret
    exact Tells.no (fun h => h.2.1 S1.out) (B0.out.trans (hb1.mono (by omega)))
  have B1 := Lib.hid hb1
  have B2 : Hid (Below w.heap.size w w1) := B0.out.trans (hb1.mono (by omega))
  have hsz1 : w.heap.size + 2 < w1.heap.size := Nat.lt_of_lt_of_le hsz hb1.size
  have f2' := old_cell hb1 f2 (by omega)
  have s0' := old_cell hb1 s0 (by omega)
  have s1' := old_cell hb1 s1 (by omega)
  have d0' := old_cell hb1 d0 (by omega)
  have e2' := old_cell B2.out e2 l2
  have e3' := old_cell B2.out e3 l3
  have l2' : b2 < w1.heap.size := by omega
  have l3' : b3 < w1.heap.size := by omega
  have z0 : w.heap.size < w1.heap.size := by omega
  have z1 : w.heap.size + 1 < w1.heap.size := by omega
  clear f2 f5 s0 s1 d0 hb1 e2 e3 l2 l3
  go_wp2_with fail
  go_region
  have B3 : Hid (Below w1.heap.size w1 (w1.alloc (.cells #[.int .i64 d] 3)).drew) := (Below.new _ _).drew
  have B4 : Hid (Below w.heap.size w (w1.alloc (.cells #[.int .i64 d] 3)).drew) := B2.out.trans (B3.out.mono (by omega))
  by_cases hd0 : d = 0
  · subst hd0
    go_wp2_with fail
    refine (has_c A2 c2 mr i _ (HP.out.au.mr.below IntE.stays B4.out) (by omega) HM.out).mono ?_
    rintro e w2 ⟨r, rfl, hr, rfl⟩
    have HR := Lib.hid hr
    clear hr
    go_wp2
    go_ret
    exact ⟨r, rfl, by rw [HR.out]; exact ⟨fun h => ⟨S.out, S1.out, fun _ => h, fun h => absurd rfl h⟩, fun h => h.2.2.1 rfl⟩, B4.out⟩
  · have hd0' : (d == 0) = false := by simpa using hd0
    by_cases hdp : 0 < d
    · go_wp2_with fail
      refine (containsE_c 95 _ (enters_of Try.func95 (by kernel_rfl) rfl) (keeps2P kp pl dist d) AE cE es _ (HE.out.below EdE.stays B4.out) lE
        (pred2 _ (w.heap.size + 1) (w.heap.size + 2) w1.heap.size Ak (some ⟨b2, o2, none⟩) (some ⟨b3, o3, none⟩) ck cp cD kp pl dist d es n (old_cell B3.out s0' z1) (old_cell B3.out s1' z1) (HS.out.kp.below BoolE.stays B4.out) lk HN.out lp lD (by simp; omega)
          (old_cell B3.out d0' hsz1) (by simp; omega) (HD.out.below IntE.stays B4.out) (HS.out.pl.below IntE.stays B4.out) (new_cell w1 3 [.int .i64 d] _ 0 rfl) (by simp) HX.out HPL.out)).mono ?_
      rintro e w2 ⟨r, rfl, hr, hb2⟩
      have HR := Lib.hid hr
      clear hr
      go_wp2
      go_ret
      exact ⟨r, rfl, by rw [HR.out]; exact ⟨fun h => ⟨S.out, S1.out, fun h => absurd h hd0, fun _ => ⟨hdp, h⟩⟩, fun h => (h.2.2.2 hd0).2⟩, B4.out.trans (hb2.mono (by simp; omega))⟩
    · go_wp2
      go_ret
      exact Tells.no (fun h => by have := (h.2.2.2 hd0).1; omega) B4.out
end Go.Proofs.Ytkbmenpggiojeaa
