/-
  TimedSteps: for every input the law returns true, and each argument reads afterwards as it read before. No condition on the inputs.
-/
import Derived.Test.YtimdepdbcdbikaaBas22
import Derived.Test.YtimdepdbcdbikaaCgx04
set_option linter.unusedSimpArgs false
set_option linter.unusedVariables false
namespace Go.Proofs.Ytimdepdbcdbikaa
open Go.RowKit
set_option maxRecDepth 100000
open Go.ChangeShapes Go.WideShapes Go.ChangeAt Go.RowKit
theorem steps_lifted (os : Os) (started : os.Started) (H : Type) (enc : TypeId × Value → H) :
 ReturnsInHanded {} Try.checked os 7 .any (Rows.timedStepsSpec.pre6 enc Try.prog Try.f7 Rows.timedStepsRow.domain false) (Rows.timedStepsSpec.post enc Try.prog Try.f7 false true false false) := by
 refine returnsInHanded_of_change (C := Try.checked) own_ started (by kernel_rfl) Try.func7
  (ChangeSpec.witness6 (enc := enc) (C := Try.checked) false ⟨#[],#[.agg #[.int .u8 0,.int .u8 0,.int .u8 0,.int .u8 0,.int .u8 0,.int .u8 0,.int .u8 0,.int .u8 0,.int .u8 0,.int .u8 0,.int .u8 0,.int .u8 0,.int .u8 0,.int .u8 0,.int .u8 0,.int .u8 0,.int .u8 0,.int .u8 0,.int .u8 0,.int .u8 0,.int .u8 0,.int .u8 0,.int .u8 0,.int .u8 0,.int .u8 0,.int .u8 0,.int .u8 0,.int .u8 0,.int .u8 0,.int .u8 0,.int .u8 0,.int .u8 0,.int .u8 0,.int .u8 0],.slice none 0 0,.int .i64 0],[]⟩ 8 (by kernel_rfl) (by kernel_rfl) (by kernel_rfl) (by kernel_rfl)) ?_
 intro W base args ds gs before hval0 hW hcnd _;have hval : ∀ (j : Nat) t v,Try.f7.params[j]? = some t → args[j]? = some v → Value.okWide Try.prog W .any base t v := hval0;have hW' := hW;obtain ⟨p,q,hA0,hV,rfl,hfz,hnd⟩ := hW;have hA : DataW.TrodAll enc Try.prog W 0 (fun _ => true) true Try.f7.params.toList args.toList ds p := hA0;rw [Try.params7] at hA hval;obtain ⟨v0,vs0,d0,ds0,p0,q0,hargs,rfl,rfl,h0,r0⟩ := trodAll_cons hA;obtain ⟨v1,vs1,d1,ds1,p1,q1,rfl,rfl,rfl,h1,r1⟩ := trodAll_cons r0;obtain ⟨v2,vs2,d2,ds2,p2,q2,rfl,rfl,rfl,h2,r2⟩ := trodAll_cons r1;obtain ⟨rfl,rfl,rfl⟩ := trodAll_nil r2;obtain rfl : args = #[v0,v1,v2] := by cases args; simp_all
 obtain ⟨rfl,rfl⟩ := trodVars_none hV;have lt0 : ∀ x ∈ p0,x.block < W.heap.size := by obtain ⟨m,hm⟩ := h0; exact DataW.trod_lt m _ _ _ hm
 have lt1 : ∀ x ∈ p1,x.block < W.heap.size := by obtain ⟨m,hm⟩ := h1; exact DataW.trod_lt m _ _ _ hm
 have lt2 : ∀ x ∈ p2,x.block < W.heap.size := by obtain ⟨m,hm⟩ := h2; exact DataW.trod_lt m _ _ _ hm
 have k0 := h0;have k1 := h1;have k2 := h2;have o0 := hval 0 29 v0 rfl rfl;have o1 := hval 1 48 v1 rfl rfl;have o2 := hval 2 3 v2 rfl rfl;obtain ⟨sm0,rfl,os0⟩ := sm5_in o0 h0;obtain ⟨AL,cL,l,rfl,hl⟩ := u8s_in o1 h1;obtain ⟨x2,rfl,rfl,rfl,wx2⟩ := open_int Try.underlying3 o2 h2;clear hA0 hval0;refine (lawSteps_c sm0 AL cL l x2 W os0 hl).mono fun e W' ⟨he,bel⟩ => ?_;subst he;exact ⟨_,rfl,_,_,_,[],_,[],hW',trodAll_mk1 (shut_bool Try.underlying4 _),(trodAll_cons_mk (Below.trod laidOut_ (by kernel_rfl) (of_decide_eq_true (by kernel_rfl)) k0 bel lt0) (trodAll_cons_mk (Below.trod laidOut_ (by kernel_rfl) (of_decide_eq_true (by kernel_rfl)) k1 bel lt1) (trodAll_cons_mk (Below.trod laidOut_ (by kernel_rfl) (of_decide_eq_true (by kernel_rfl)) k2 bel lt2) trodAll_mk0))),rfl,bel.frame _,fun h => by cases h⟩

theorem steps_over : Rows.timedStepsRow.holds Try.pinned (OpenSpec.ofChange Rows.timedStepsSpec) :=
 OpenClaim.holds_of_wide 7 Try.f7 rfl rfl rfl rfl rfl rfl rfl ⟨rfl,rfl,rfl,rfl,rfl⟩ rfl rfl rfl rfl rfl (by kernel_rfl) Try.func7 (by kernel_rfl)
  (of_decide_eq_true (by kernel_rfl)) (by unfold Func.isWrapper; first | (rw [if_pos (by decide +kernel)]; kernel_rfl) | (rw [if_neg (by decide +kernel)]; exact ⟨rfl,rfl⟩))
  (fun os started H enc _ => steps_lifted os started H enc)

theorem steps_proved : Rows.TimedStepsSaid := steps_over
end Go.Proofs.Ytimdepdbcdbikaa
