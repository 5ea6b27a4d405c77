/-
  CheckerRefuses: for every input the law returns true, and each argument reads afterwards as it read before. No condition on the inputs.
-/
import Derived.Test.YtkbmenpggiojeaaRb
import Derived.Test.YtkbmenpggiojeaaNk
namespace Go.Proofs.Ytkbmenpggiojeaa
open Go.ChangeShapes Go.WideShapes Go.ChangeAt Go.RowKit
set_option linter.unusedSimpArgs false
set_option linter.unusedVariables false
set_option maxRecDepth 100000
theorem refuses_lifted (os : Os) (started : os.Started) (H : Type) (enc : TypeId × Value → H) :
    ReturnsInHanded {} Try.checked os 8 .any (Rows.checkerRefusesSpec.pre6 enc Try.prog Try.f8 Rows.checkerRefusesRow.domain false) (Rows.checkerRefusesSpec.post enc Try.prog Try.f8 false true false false) := by
  refine returnsInHanded_of_change (C := Try.checked) own_ started (by kernel_rfl) Try.func8
    (ChangeSpec.witness6 (enc := enc) (C := Try.checked) false ⟨#[], #[.agg #[.slice none 0 0, .int .i64 0, .slice none 0 0, .slice none 0 0, .slice none 0 0, .slice none 0 0], .agg #[.slice none 0 0, .slice none 0 0, .slice none 0 0]], []⟩ 8 (by kernel_rfl) (by kernel_rfl) (by kernel_rfl) (by kernel_rfl)) ?_
  intro W base args ds gs before hval0 hW hcnd _
  have hval : ∀ (j : Nat) t v, Try.f8.params[j]? = some t → args[j]? = some v → Value.okWide Try.prog W .any base t v := hval0
  have hW' := hW
  obtain ⟨p, q, hA0, hV, rfl, hfz, hnd⟩ := hW
  have hA : DataW.TrodAll enc Try.prog W 0 (fun _ => true) true Try.f8.params.toList args.toList ds p := hA0
  rw [Try.params8] at hA hval
  obtain ⟨v0, vs0, d0, ds0, p0, q0, hargs, rfl, rfl, h0, r0⟩ := trodAll_cons hA
  obtain ⟨v1, vs1, d1, ds1, p1, q1, rfl, rfl, rfl, h1, r1⟩ := trodAll_cons r0
  obtain ⟨rfl, rfl, rfl⟩ := trodAll_nil r1
  obtain rfl : args = #[v0, v1] := by cases args; simp_all
  obtain ⟨rfl, rfl⟩ := trodVars_none hV
  have lt0 : ∀ x ∈ p0, x.block < W.heap.size := by obtain ⟨m, hm⟩ := h0; exact DataW.trod_lt m _ _ _ hm
  have lt1 : ∀ x ∈ p1, x.block < W.heap.size := by obtain ⟨m, hm⟩ := h1; exact DataW.trod_lt m _ _ _ hm
  have k0 := h0
  have k1 := h1
  have o0 := hval 0 78 v0 rfl rfl
  have o1 := hval 1 81 v1 rfl rfl
  obtain ⟨cs0, n0, rfl, t0⟩ := cells_of Try.underlying78 o0 h0
  obtain ⟨c0, c1, c2, _, _, _, _, _, _, rfl, g0, g1, g2⟩ := st3_of Try.underlying78 (by kernel_rfl) t0
  obtain ⟨⟨al, n, mr, ed⟩, ⟨A1, c1, A2, c2, A3, c3⟩, rfl, AI⟩ := au_of g0
  obtain ⟨AF, cF, forb, rfl, iF, mF, kF⟩ := ints_of_ g1
  obtain ⟨AU, cU, unc, rfl, iU, mU, kU⟩ := ints_of_ g2
  obtain ⟨cs1, n1, rfl, t1⟩ := cells_of Try.underlying81 o1 h1
  obtain ⟨c0, c1, c2, _, _, _, _, _, _, rfl, g0, g1, g2⟩ := st3_of Try.underlying81 (by kernel_rfl) t1
  obtain ⟨AK, cK, kept, rfl, iK, mK, kK⟩ := ints_of_ g0
  obtain ⟨AD, cD, dist, rfl, iD, mD, kD⟩ := ints_of_ g1
  obtain ⟨AR, cR, rms, rfl, iR, mR, kR⟩ := rms_of g2
  clear hA0 hval0
  refine (refuses_c al mr n ed forb unc ⟨⟨A1, _, A2, _, A3, _⟩, AF, cF, AU, cU⟩ kept dist rms ⟨AK, cK, AD, cD, AR, cR⟩ W AI.h1 AI.h2 AI.h3 iF iU iK iD iR (Nat.le_trans AI.l1 AI.m1) (Nat.le_trans AI.l2 AI.m2) (Nat.le_trans AI.l3 AI.m3) (Nat.le_trans mF kF) (Nat.le_trans mU kU) (Nat.le_trans mK kK) (Nat.le_trans mD kD) (Nat.le_trans mR kR) mR kR).mono fun e W' ⟨he, bel⟩ => ?_
  subst he
  exact ⟨_, rfl, _, _, _, [], _, [], hW', trodAll_mk1 (shut_bool Try.underlying4 _), (trodAll_cons_mk (Below.trod laidOut_ (by kernel_rfl) (of_decide_eq_true (by kernel_rfl)) k0 bel lt0) (trodAll_cons_mk (Below.trod laidOut_ (by kernel_rfl) (of_decide_eq_true (by kernel_rfl)) k1 bel lt1) trodAll_mk0)), rfl, bel.frame _, fun h => by cases h⟩

theorem refuses_over : Rows.checkerRefusesRow.holds Try.pinned (OpenSpec.ofChange Rows.checkerRefusesSpec) :=
  OpenClaim.holds_of_wide 8 Try.f8 rfl rfl rfl rfl rfl rfl rfl ⟨rfl, rfl, rfl, rfl, rfl⟩ rfl rfl rfl rfl rfl (by kernel_rfl) Try.func8 (by kernel_rfl)
    (of_decide_eq_true (by kernel_rfl)) (by unfold Func.isWrapper; first | (rw [if_pos (by decide +kernel)]; kernel_rfl) | (rw [if_neg (by decide +kernel)]; exact ⟨rfl, rfl⟩))
    (fun os started H enc _ => refuses_lifted os started H enc)

theorem refuses_proved : Rows.CheckerRefusesSaid := refuses_over
end Go.Proofs.Ytkbmenpggiojeaa
