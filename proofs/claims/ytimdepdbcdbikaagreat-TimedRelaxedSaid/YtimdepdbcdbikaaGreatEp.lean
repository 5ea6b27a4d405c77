/-
  TimedRelaxed: for every input the law returns true, and each argument reads afterwards as it read before. No condition on the inputs.
-/
import Derived.Test.YtimdepdbcdbikaaGreatEpx01
import Derived.Test.YtimdepdbcdbikaaGreatEpx05
set_option linter.unusedSimpArgs false
set_option linter.unusedVariables false
namespace Go.Proofs.YtimdepdbcdbikaaGreat
open Go.RowKit
set_option maxRecDepth 100000
open Go.ChangeShapes Go.WideShapes Go.ChangeAt Go.RowKit
theorem relaxed_lifted (os : Os) (started : os.Started) (H : Type) (enc : TypeId × Value → H) :
 ReturnsInHanded {} Tryz.checked os 3 .any (Rows.timedRelaxedSpec.pre6 enc Tryz.prog Tryz.f3 Rows.timedRelaxedRow.domain false) (Rows.timedRelaxedSpec.post enc Tryz.prog Tryz.f3 false true false false) := by
 refine returnsInHanded_of_change (C := Tryz.checked) own_ started (by kernel_rfl) Tryz.func3
  (ChangeSpec.witness6 (enc := enc) (C := Tryz.checked) false ⟨#[],#[.agg #[.int .u8 0,.int .u8 0,.int .u8 0,.int .u8 0,.int .u8 0,.int .u8 0,.int .u8 0,.int .u8 0,.int .u8 0,.int .u8 0,.int .u8 0,.int .u8 0,.int .u8 0,.int .u8 0,.int .u8 0,.int .u8 0,.int .u8 0,.int .u8 0,.int .u8 0,.int .u8 0,.int .u8 0,.int .u8 0,.int .u8 0,.int .u8 0,.int .u8 0,.int .u8 0,.int .u8 0,.int .u8 0,.int .u8 0,.int .u8 0,.int .u8 0,.int .u8 0,.int .u8 0,.int .u8 0]],[]⟩ 8 (by kernel_rfl) (by kernel_rfl) (by kernel_rfl) (by kernel_rfl)) ?_
 intro W base args ds gs before hval0 hW hcnd _;have hval : ∀ (j : Nat) t v,Tryz.f3.params[j]? = some t → args[j]? = some v → Value.okWide Tryz.prog W .any base t v := hval0;have hW' := hW;obtain ⟨p,q,hA0,hV,rfl,hfz,hnd⟩ := hW;have hA : DataW.TrodAll enc Tryz.prog W 0 (fun _ => true) true Tryz.f3.params.toList args.toList ds p := hA0;rw [Tryz.params3] at hA hval;obtain ⟨v0,vs0,d0,ds0,p0,q0,hargs,rfl,rfl,h0,r0⟩ := trodAll_cons hA;obtain ⟨rfl,rfl,rfl⟩ := trodAll_nil r0;obtain rfl : args = #[v0] := by cases args; simp_all
 obtain ⟨rfl,rfl⟩ := trodVars_none hV;have lt0 : ∀ x ∈ p0,x.block < W.heap.size := by obtain ⟨m,hm⟩ := h0; exact DataW.trod_lt m _ _ _ hm
 have k0 := h0;have o0 := hval 0 29 v0 rfl rfl;obtain ⟨sm0,rfl,os0⟩ := sm5_in o0 h0;clear hA0 hval0;refine (lawRelaxed_c sm0 W os0).mono fun e W' ⟨he,bel⟩ => ?_;subst he;exact ⟨_,rfl,_,_,_,[],_,[],hW',trodAll_mk1 (shut_bool Tryz.underlying4 _),(trodAll_cons_mk (Below.trod laidOut_ (by kernel_rfl) (of_decide_eq_true (by kernel_rfl)) k0 bel lt0) trodAll_mk0),rfl,bel.frame _,fun h => by cases h⟩

theorem relaxed_over : Rows.timedRelaxedRow.holds Tryz.pinned (OpenSpec.ofChange Rows.timedRelaxedSpec) :=
 OpenClaim.holds_of_wide 3 Tryz.f3 rfl rfl rfl rfl rfl rfl rfl ⟨rfl,rfl,rfl,rfl,rfl⟩ rfl rfl rfl rfl rfl (by kernel_rfl) Tryz.func3 (by kernel_rfl)
  (of_decide_eq_true (by kernel_rfl)) (by unfold Func.isWrapper; first | (rw [if_pos (by decide +kernel)]; kernel_rfl) | (rw [if_neg (by decide +kernel)]; exact ⟨rfl,rfl⟩))
  (fun os started H enc _ => relaxed_lifted os started H enc)

theorem relaxed_proved : Rows.TimedRelaxedSaid := relaxed_over
end Go.Proofs.YtimdepdbcdbikaaGreat
