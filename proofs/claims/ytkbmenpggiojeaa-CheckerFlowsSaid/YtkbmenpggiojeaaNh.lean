/-
  The plain law: what chapter 46 asks of a kept and of a removed state is what the checker asks.
-/
import Derived.Test.YtkbmenpggiojeaaNg
namespace Go.Proofs.Ytkbmenpggiojeaa
open Go.RowKit
set_option linter.unusedSimpArgs false
set_option linter.unusedVariables false

/-- The places of a list's numbers below n: -1 where a number is not in it. -/
structure PlOf (n : Nat) (l kp : List Int) : Prop where
  ln : kp.length = n
  at_ : ∀ i : Nat, i < n → (∃ k : Nat, kp[i]? = some (k : Int) ∧ l[k]? = some (i : Int)) ∨ kp[i]? = some (-1) ∧ (i : Int) ∉ l
  inc : incr l

theorem mem_outOf {es : List Ed} {i : Nat} {y : Ed} : y ∈ outOf es i ↔ y ∈ es ∧ y.src = (i : Int) := by simp [outOf]

theorem PlOf.uniq {n : Nat} {l kp : List Int} (h : PlOf n l kp) {a b : Nat} {x : Int} (h1 : l[a]? = some x) (h2 : l[b]? = some x) : a = b := by
  rcases Nat.lt_trichotomy a b with e | e | e
  · have := h.inc a b _ _ e h1 h2; omega
  · exact e
  · have := h.inc b a _ _ e h2 h1; omega

theorem PlOf.ok {n : Nat} {l kp : List Int} (h : PlOf n l kp) : KpOk n l.length kp := by
  refine ⟨h.ln, fun i v hv => ?_⟩
  have hi : i < n := by have := (List.getElem?_eq_some_iff.1 hv).1; have := h.ln; omega
  rcases h.at_ i hi with ⟨k, h1, h2⟩ | ⟨h1, _⟩
  · rw [hv] at h1; cases h1
    have := (List.getElem?_eq_some_iff.1 h2).1
    exact .inr ⟨by omega, by omega⟩
  · rw [hv] at h1; cases h1; exact .inl rfl

theorem keeps46_iff {au : Au} {forb unc dist kept kp : List Int} {n x : Nat} {d : Int} (hk : PlOf n kept kp) (hd : dist.length = kept.length) (hes : ∀ y, y ∈ au.ed → 0 ≤ y.dst ∧ y.dst < n) :
    Keeps46 au forb unc dist kp x d ↔ keepsS forb unc au.mr kept dist (outOf au.ed x) x d := by
  have hb : ∀ y, y ∈ au.ed → (outBad kp unc x y ↔ y.src = (x : Int) ∧ y.dst ∉ kept ∧ y.ev ∈ unc) := fun y hm => by
    obtain ⟨g0, g1⟩ := hes y hm
    obtain ⟨src, ev, dst⟩ := y
    simp only at g0 g1
    obtain ⟨t, rfl⟩ := Int.eq_ofNat_of_zero_le g0
    unfold outBad
    simp only [Int.toNat_natCast, List.getD_eq_getElem?_getD]
    rcases hk.at_ t (by omega) with ⟨k, h1, h2⟩ | ⟨h1, h2⟩
    · rw [h1]; simp only [Option.getD_some]
      have := List.mem_of_getElem? h2
      constructor
      · rintro ⟨_, h, _⟩; omega
      · rintro ⟨_, h, _⟩; exact absurd this h
    · rw [h1]; simp [h2]
  have hn : ∀ y, y ∈ au.ed → (nearB kp dist x d y ↔ y.src = (x : Int) ∧ ∃ (k : Nat) (d1 : Int), kept[k]? = some y.dst ∧ dist[k]? = some d1 ∧ d1 < d) := fun y hm => by
    obtain ⟨g0, g1⟩ := hes y hm
    obtain ⟨src, ev, dst⟩ := y
    simp only at g0 g1
    obtain ⟨t, rfl⟩ := Int.eq_ofNat_of_zero_le g0
    unfold nearB
    simp only [Int.toNat_natCast, List.getD_eq_getElem?_getD]
    rcases hk.at_ t (by omega) with ⟨k, h1, h2⟩ | ⟨h1, h2⟩
    · rw [h1]; simp only [Option.getD_some, Int.toNat_natCast]
      have hkl : k < dist.length := by have := (List.getElem?_eq_some_iff.1 h2).1; omega
      rw [List.getElem?_eq_getElem hkl]; simp only [Option.getD_some]
      constructor
      · rintro ⟨h, _, h3⟩; exact ⟨h, k, _, h2, List.getElem?_eq_getElem hkl, h3⟩
      · rintro ⟨h, k', d1, e1, e2, e3⟩
        obtain rfl := hk.uniq e1 h2
        rw [List.getElem?_eq_getElem hkl] at e2; cases e2
        exact ⟨h, by omega, e3⟩
    · rw [h1]; simp only [Option.getD_some]
      constructor
      · rintro ⟨_, h, _⟩; omega
      · rintro ⟨_, k', d1, e1, _⟩; exact absurd (List.mem_of_getElem? e1) h2
  constructor
  · rintro ⟨h1, h2, h3, h4⟩
    refine ⟨h2, fun ⟨y, hy, e1, e2⟩ => ?_, fun e => ?_, fun e => ?_⟩
    · obtain ⟨hm, hs⟩ := mem_outOf.1 hy
      exact h1 y hm ((hb y hm).2 ⟨hs, e1, e2⟩)
    · rcases h4 with h | h
      · exact h.2
      · omega
    · rcases h4 with h | ⟨h, y, hm, hy⟩
      · exact absurd h.1 e
      · obtain ⟨hs, hh⟩ := (hn y hm).1 hy
        exact ⟨h, y, mem_outOf.2 ⟨hm, hs⟩, hh⟩
  · rintro ⟨h1, h2, h3, h4⟩
    refine ⟨fun y hm hy => ?_, h1, ?_, ?_⟩
    · obtain ⟨hs, e1, e2⟩ := (hb y hm).1 hy
      exact h2 ⟨y, mem_outOf.2 ⟨hm, hs⟩, e1, e2⟩
    · by_cases e : d = 0
      · omega
      · have := (h4 e).1; omega
    · by_cases e : d = 0
      · exact .inl ⟨e, h3 e⟩
      · obtain ⟨h, y, hy, hh⟩ := h4 e
        obtain ⟨hm, hs⟩ := mem_outOf.1 hy
        exact .inr ⟨h, y, hm, (hn y hm).2 ⟨hs, hh⟩⟩

theorem st_get {rms : List Rm} {k : Nat} {x : Int} : (rms.map (·.st))[k]? = some x ↔ ∃ q, rms[k]? = some q ∧ q.st = x := by simp [List.getElem?_map]

theorem rem46_iff {au : Au} {forb unc rp : List Int} {rms : List Rm} {n x : Nat} {r : Rm} (hk : PlOf n (rms.map (·.st)) rp) (hes : ∀ y, y ∈ au.ed → 0 ≤ y.dst ∧ y.dst < n) (hx : r.st = (x : Int)) :
    Rem46 au forb unc rms rp r ↔ 1 ≤ r.rank ∧ removesP forb unc au.mr rms (outOf au.ed x) r := by
  have key : ∀ (t : Nat) (P : Rm → Prop), t < n → ((∃ (k : Nat) (q : Rm), rp[t]? = some (k : Int) ∧ rms[k]? = some q ∧ P q) ↔ ∃ q, q ∈ rms ∧ q.st = (t : Int) ∧ P q) := fun t P ht => by
    constructor
    · rintro ⟨k, q, h1, h2, h3⟩
      rcases hk.at_ t ht with ⟨k', e1, e2⟩ | ⟨e1, _⟩
      · rw [h1] at e1
        obtain rfl : k = k' := by have : (k : Int) = k' := by simpa using e1
                                  omega
        obtain ⟨q', e3, e4⟩ := st_get.1 e2
        rw [h2] at e3; cases e3
        exact ⟨q, List.mem_of_getElem? h2, e4, h3⟩
      · rw [h1] at e1; simp at e1
    · rintro ⟨q, hq, h1, h2⟩
      obtain ⟨m, hm, rfl⟩ := List.mem_iff_getElem.1 hq
      have hm' : (rms.map (·.st))[m]? = some (t : Int) := st_get.2 ⟨_, List.getElem?_eq_getElem hm, h1⟩
      rcases hk.at_ t ht with ⟨k', e1, e2⟩ | ⟨_, e2⟩
      · obtain rfl := hk.uniq e2 hm'
        exact ⟨_, _, e1, List.getElem?_eq_getElem hm, h2⟩
      · exact absurd (List.mem_of_getElem? hm') e2
  have hb : ∀ y, y ∈ au.ed → (befP rms rp r.rank y ↔ lowerP rms y.dst r.rank) := fun y hm => by
    obtain ⟨g0, g1⟩ := hes y hm
    obtain ⟨src, ev, dst⟩ := y
    simp only at g0 g1
    obtain ⟨t, rfl⟩ := Int.eq_ofNat_of_zero_le g0
    exact key t (fun q => q.rank < r.rank) (by omega)
  have hw : ∀ y, y ∈ au.ed → (witP rms rp r.rank y ↔ alikeP rms y.dst r.rank) := fun y hm => by
    obtain ⟨g0, g1⟩ := hes y hm
    obtain ⟨src, ev, dst⟩ := y
    simp only at g0 g1
    obtain ⟨t, rfl⟩ := Int.eq_ofNat_of_zero_le g0
    exact key t (fun q => q.rank = r.rank ∧ q.reason = 3) (by omega)
  have h1 : (∃ y, y ∈ au.ed ∧ oneP rms rp r y) ↔ ∃ y, y ∈ outOf au.ed x ∧ removes1P rms r y := by
    constructor
    · rintro ⟨y, hm, a, b, c⟩; exact ⟨y, mem_outOf.2 ⟨hm, by rw [a, hx]⟩, c, (hb y hm).1 b⟩
    · rintro ⟨y, hy, c, b⟩
      obtain ⟨hm, hs⟩ := mem_outOf.1 hy
      exact ⟨y, hm, by rw [hs, hx], (hb y hm).2 b, c⟩
  have h2 : (∀ y, y ∈ au.ed → allP rms rp r y) ↔ ¬ ∃ y, y ∈ outOf au.ed x ∧ removes2P rms r y := by
    constructor
    · rintro h ⟨y, hy, c, b⟩
      obtain ⟨hm, hs⟩ := mem_outOf.1 hy
      rcases h y hm (by rw [hs, hx]) with h | h
      · exact c ((hb y hm).1 h)
      · exact b ((hw y hm).1 h)
    · intro h y hm hs
      by_cases e : lowerP rms y.dst r.rank
      · exact .inl ((hb y hm).2 e)
      · by_cases e2 : alikeP rms y.dst r.rank
        · exact .inr ((hw y hm).2 e2)
        · exact absurd ⟨y, mem_outOf.2 ⟨hm, by rw [hs, hx]⟩, e, e2⟩ h
  unfold Rem46 removesP
  rw [h1, h2]
end Go.Proofs.Ytkbmenpggiojeaa
