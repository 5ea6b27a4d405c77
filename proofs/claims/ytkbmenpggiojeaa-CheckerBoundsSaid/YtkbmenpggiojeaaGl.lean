/-
  CheckerBounds: for every input the law returns true, and each argument reads afterwards as it read before. No condition on the inputs.
-/
import Derived.Test.YtkbmenpggiojeaaRb
import Derived.Test.YtkbmenpggiojeaaNc
import Derived.Test.YtkbmenpggiojeaaGj
namespace Go.Proofs.Ytkbmenpggiojeaa
open Go.ChangeShapes Go.WideShapes Go.ChangeAt Go.RowKit
set_option linter.unusedSimpArgs false
set_option linter.unusedVariables false
set_option maxRecDepth 100000
section
variable {H : Type} {enc : TypeId × Value → H} {w : World} {base : Nat} {spare : Nat → Bool} {held : Bool}
theorem pa_of {fuel : Nat} {cs : List Value} {x : DataW H × List MemPlace} (h : DataW.trod enc Try.prog w base spare held fuel 46 cs = some x) : ∃ y : Pa, PaE w y cs := by
  obtain ⟨c0, c1, c2, _, _, _, _, _, _, rfl, h0, h1, h2⟩ := st3_of Try.underlying46 (by kernel_rfl) h
  obtain ⟨a, rfl⟩ := int_of Try.underlying3 h0
  obtain ⟨b, rfl⟩ := int_of Try.underlying3 h1
  obtain ⟨c, rfl⟩ := int_of Try.underlying3 h2
  exact ⟨⟨a, b, c⟩, rfl⟩
theorem pas_in {v : Value} {d : DataW H} {p : List MemPlace} {r : Reach} {b0 : Nat} (hv : Value.okWide Try.prog w r b0 33 v) (h : DataW.Trod enc Try.prog w base spare held 33 v d p) :
    ∃ (A : Option Addr) (c : Nat) (l : List Pa), v = .slice A l.length c ∧ PasAt w A l ∧ l.length ≤ c ∧ c ≤ maxLen := by
  obtain ⟨A, n, c, rfl⟩ := okWide_slice Try.underlying33 hv
  obtain ⟨fuel, hf⟩ := ocells_of rfl h
  obtain ⟨A, c, l, e, h⟩ := sl_of (E := PaE) (k := 3) Try.underlying33 (by kernel_rfl) (by decide) (fun n cs x h => pa_of h) hf
  cases e
  exact ⟨_, _, l, rfl, h⟩
theorem slip_of {v : Value} {d : DataW H} {p : List MemPlace} {r : Reach} {b0 : Nat} (hv : Value.okWide Try.prog w r b0 32 v) (h : DataW.Trod enc Try.prog w base spare held 32 v d p) :
    ∃ kd at_ by_ : Int, v = .agg #[.int .u8 kd, .int .u8 at_, .int .i8 by_] ∧ 0 ≤ kd ∧ kd < 256 ∧ 0 ≤ at_ ∧ at_ < 256 ∧ -128 ≤ by_ ∧ by_ < 128 := by
  obtain ⟨cs, fuel, rfl, hq⟩ := cells_of Try.underlying32 hv h
  obtain ⟨c0, c1, c2, _, _, _, _, _, _, rfl, h0, h1, h2⟩ := st3_of Try.underlying32 (by kernel_rfl) hq
  obtain ⟨a, e0, _, w0⟩ := DataW.trod_int Try.underlying5 h0
  obtain ⟨b, e1, _, w1⟩ := DataW.trod_int Try.underlying5 h1
  obtain ⟨c, e2, _, w2⟩ := DataW.trod_int Try.underlying30 h2
  cases e0; cases e1; cases e2
  have i0 : 0 ≤ a ∧ a < 256 := by simp [Lit.wf, IntKind.min, IntKind.max, IntKind.signed, IntKind.bits] at w0; omega
  have i1 : 0 ≤ b ∧ b < 256 := by simp [Lit.wf, IntKind.min, IntKind.max, IntKind.signed, IntKind.bits] at w1; omega
  have i2 : -128 ≤ c ∧ c < 128 := by simp [Lit.wf, IntKind.min, IntKind.max, IntKind.signed, IntKind.bits] at w2; omega
  exact ⟨a, b, c, rfl, i0.1, i0.2, i1.1, i1.2, i2.1, i2.2⟩
end
theorem bounds_lifted (os : Os) (started : os.Started) (H : Type) (enc : TypeId × Value → H) :
    ReturnsInHanded {} Try.checked os 3 .any (Rows.checkerBoundsSpec.pre6 enc Try.prog Try.f3 Rows.checkerBoundsRow.domain false) (Rows.checkerBoundsSpec.post enc Try.prog Try.f3 false true false false) := by
  refine returnsInHanded_of_change (C := Try.checked) own_ started (by kernel_rfl) Try.func3
    (ChangeSpec.witness6 (enc := enc) (C := Try.checked) false ⟨#[], #[.agg #[.int .u8 0, .int .u8 0, .int .u8 0, .int .u8 0, .int .u8 0, .int .u8 0, .int .u8 0, .int .u8 0, .int .u8 0, .int .u8 0, .int .u8 0, .int .u8 0, .int .u8 0, .int .u8 0, .int .u8 0, .int .u8 0, .int .u8 0, .int .u8 0, .int .u8 0, .int .u8 0, .int .u8 0, .int .u8 0, .int .u8 0, .int .u8 0, .int .u8 0, .int .u8 0, .int .u8 0, .int .u8 0, .int .u8 0, .int .u8 0, .int .u8 0, .int .u8 0, .int .u8 0], .agg #[.int .u8 0, .int .u8 0, .int .i8 0], .slice none 0 0], []⟩ 8 (by kernel_rfl) (by kernel_rfl) (by kernel_rfl) (by kernel_rfl)) ?_
  intro W base args ds gs before hval0 hW hcnd _
  have hval : ∀ (j : Nat) t v, Try.f3.params[j]? = some t → args[j]? = some v → Value.okWide Try.prog W .any base t v := hval0
  have hW' := hW
  obtain ⟨p, q, hA0, hV, rfl, hfz, hnd⟩ := hW
  have hA : DataW.TrodAll enc Try.prog W 0 (fun _ => true) true Try.f3.params.toList args.toList ds p := hA0
  rw [Try.params3] at hA hval
  obtain ⟨v0, vs0, d0, ds0, p0, q0, hargs, rfl, rfl, h0, r0⟩ := trodAll_cons hA
  obtain ⟨v1, vs1, d1, ds1, p1, q1, rfl, rfl, rfl, h1, r1⟩ := trodAll_cons r0
  obtain ⟨v2, vs2, d2, ds2, p2, q2, rfl, rfl, rfl, h2, r2⟩ := trodAll_cons r1
  obtain ⟨rfl, rfl, rfl⟩ := trodAll_nil r2
  obtain rfl : args = #[v0, v1, v2] := by cases args; simp_all
  obtain ⟨rfl, rfl⟩ := trodVars_none hV
  have lt0 : ∀ x ∈ p0, x.block < W.heap.size := by obtain ⟨m, hm⟩ := h0; exact DataW.trod_lt m _ _ _ hm
  have lt1 : ∀ x ∈ p1, x.block < W.heap.size := by obtain ⟨m, hm⟩ := h1; exact DataW.trod_lt m _ _ _ hm
  have lt2 : ∀ x ∈ p2, x.block < W.heap.size := by obtain ⟨m, hm⟩ := h2; exact DataW.trod_lt m _ _ _ hm
  have k0 := h0
  have k1 := h1
  have k2 := h2
  have o0 := hval 0 29 v0 rfl rfl
  have o1 := hval 1 32 v1 rfl rfl
  have o2 := hval 2 33 v2 rfl rfl
  obtain ⟨s, g, f, rfl, hs, hg, hf⟩ := plant_of o0 h0
  obtain ⟨kd, at_, by_, rfl, b1, b2, b3, b4, b5, b6⟩ := slip_of o1 h1
  obtain ⟨AL, cL, lp, rfl, iL, mL, kL⟩ := pas_in o2 h2
  clear hA0 hval0
  refine (bounds_c s g f kd at_ by_ AL cL lp W hs hg hf b1 b2 b3 b4 b5 b6 iL (Nat.le_trans mL kL)).mono fun e W' ⟨he, bel⟩ => ?_
  subst he
  exact ⟨_, rfl, _, _, _, [], _, [], hW', trodAll_mk1 (shut_bool Try.underlying4 _), (trodAll_cons_mk (Below.trod laidOut_ (by kernel_rfl) (of_decide_eq_true (by kernel_rfl)) k0 bel lt0) (trodAll_cons_mk (Below.trod laidOut_ (by kernel_rfl) (of_decide_eq_true (by kernel_rfl)) k1 bel lt1) (trodAll_cons_mk (Below.trod laidOut_ (by kernel_rfl) (of_decide_eq_true (by kernel_rfl)) k2 bel lt2) trodAll_mk0))), rfl, bel.frame _, fun h => by cases h⟩

theorem bounds_over : Rows.checkerBoundsRow.holds Try.pinned (OpenSpec.ofChange Rows.checkerBoundsSpec) :=
  OpenClaim.holds_of_wide 3 Try.f3 rfl rfl rfl rfl rfl rfl rfl ⟨rfl, rfl, rfl, rfl, rfl⟩ rfl rfl rfl rfl rfl (by kernel_rfl) Try.func3 (by kernel_rfl)
    (of_decide_eq_true (by kernel_rfl)) (by unfold Func.isWrapper; first | (rw [if_pos (by decide +kernel)]; kernel_rfl) | (rw [if_neg (by decide +kernel)]; exact ⟨rfl, rfl⟩))
    (fun os started H enc _ => bounds_lifted os started H enc)

theorem bounds_proved : Rows.CheckerBoundsSaid := bounds_over
end Go.Proofs.Ytkbmenpggiojeaa
