/-
  MinimalUnique: for every input the law returns true, and each argument reads afterwards as it read before. No condition on the inputs.
-/
import Derived.Test.YtjjifefanjnghaaIwx06
import Derived.Test.YtjjifefanjnghaaIwx09
set_option linter.unusedSimpArgs false
set_option linter.unusedVariables false
namespace Go.Proofs.Ytjjifefanjnghaa
open Go.RowKit
set_option maxRecDepth 100000
open Go.ChangeShapes Go.WideShapes Go.ChangeAt Go.RowKit
theorem unique_lifted (os : Os) (started : os.Started) (H : Type) (enc : TypeId × Value → H) :
 ReturnsInHanded {} Try.checked os 8 .any (Rows.minimalUniqueSpec.pre6 enc Try.prog Try.f8 Rows.minimalUniqueRow.domain false) (Rows.minimalUniqueSpec.post enc Try.prog Try.f8 false true false false) := by
 refine returnsInHanded_of_change (C := Try.checked) own_ started (by kernel_rfl) Try.func8
  (ChangeSpec.witness6 (enc := enc) (C := Try.checked) false ⟨#[],#[.agg #[.int .u8 0,.int .u8 0,.int .u8 0,.int .u8 0,.int .u8 0,.int .u8 0,.int .u8 0,.int .u8 0,.int .u8 0,.int .u8 0,.int .u8 0,.int .u8 0,.int .u8 0,.int .u8 0,.int .u8 0,.int .u8 0,.int .u8 0,.int .u8 0,.int .u8 0,.int .u8 0,.int .u8 0,.int .u8 0,.int .u8 0,.int .u8 0,.int .u8 0,.int .u8 0],.agg #[.int .u8 0,.int .u8 0,.int .u8 0,.int .u8 0,.int .u8 0,.int .u8 0,.int .u8 0,.int .u8 0,.int .u8 0,.int .u8 0,.int .u8 0,.int .u8 0,.int .u8 0,.int .u8 0,.int .u8 0,.int .u8 0,.int .u8 0,.int .u8 0,.int .u8 0,.int .u8 0,.int .u8 0,.int .u8 0,.int .u8 0,.int .u8 0,.int .u8 0,.int .u8 0],.int .u8 0],[]⟩ 8 (by kernel_rfl) (by kernel_rfl) (by kernel_rfl) (by kernel_rfl)) ?_
 intro W base args ds gs before hval0 hW hcnd _;have hval : ∀ (j : Nat) t v,Try.f8.params[j]? = some t → args[j]? = some v → Value.okWide Try.prog W .any base t v := hval0;have hW' := hW;obtain ⟨p,q,hA0,hV,rfl,hfz,hnd⟩ := hW;have hA : DataW.TrodAll enc Try.prog W 0 (fun _ => true) true Try.f8.params.toList args.toList ds p := hA0;rw [Try.params8] at hA hval;obtain ⟨v0,vs0,d0,ds0,p0,q0,hargs,rfl,rfl,h0,r0⟩ := trodAll_cons hA;obtain ⟨v1,vs1,d1,ds1,p1,q1,rfl,rfl,rfl,h1,r1⟩ := trodAll_cons r0;obtain ⟨v2,vs2,d2,ds2,p2,q2,rfl,rfl,rfl,h2,r2⟩ := trodAll_cons r1;obtain ⟨rfl,rfl,rfl⟩ := trodAll_nil r2;obtain rfl : args = #[v0,v1,v2] := by cases args; simp_all
 obtain ⟨rfl,rfl⟩ := trodVars_none hV;have lt0 : ∀ x ∈ p0,x.block < W.heap.size := by obtain ⟨m,hm⟩ := h0; exact DataW.trod_lt m _ _ _ hm
 have lt1 : ∀ x ∈ p1,x.block < W.heap.size := by obtain ⟨m,hm⟩ := h1; exact DataW.trod_lt m _ _ _ hm
 have lt2 : ∀ x ∈ p2,x.block < W.heap.size := by obtain ⟨m,hm⟩ := h2; exact DataW.trod_lt m _ _ _ hm
 have k0 := h0;have k1 := h1;have k2 := h2;have o0 := hval 0 46 v0 rfl rfl;have o1 := hval 1 46 v1 rfl rfl;have o2 := hval 2 5 v2 rfl rfl;obtain ⟨sm0,rfl,os0⟩ := sm_in o0 h0;obtain ⟨sm1,rfl,os1⟩ := sm_in o1 h1;obtain ⟨x2,rfl,rfl,rfl,wx2⟩ := open_int Try.underlying5 o2 h2;have hx2 : 0 ≤ x2 ∧ x2 ≤ 255 := by simpa [Lit.wf,IntKind.min,IntKind.max,IntKind.signed,IntKind.bits] using wx2
 clear hA0 hval0;refine (lawUnique_c sm0 sm1 x2 W os0 os1 ⟨hx2.1,by omega⟩).mono fun e W' ⟨he,bel⟩ => ?_;subst he;exact ⟨_,rfl,_,_,_,[],_,[],hW',trodAll_mk1 (shut_bool Try.underlying4 _),(trodAll_cons_mk (Below.trod laidOut_ (by kernel_rfl) (of_decide_eq_true (by kernel_rfl)) k0 bel lt0) (trodAll_cons_mk (Below.trod laidOut_ (by kernel_rfl) (of_decide_eq_true (by kernel_rfl)) k1 bel lt1) (trodAll_cons_mk (Below.trod laidOut_ (by kernel_rfl) (of_decide_eq_true (by kernel_rfl)) k2 bel lt2) trodAll_mk0))),rfl,bel.frame _,fun h => by cases h⟩

theorem unique_over : Rows.minimalUniqueRow.holds Try.pinned (OpenSpec.ofChange Rows.minimalUniqueSpec) :=
 OpenClaim.holds_of_wide 8 Try.f8 rfl rfl rfl rfl rfl rfl rfl ⟨rfl,rfl,rfl,rfl,rfl⟩ rfl rfl rfl rfl rfl (by kernel_rfl) Try.func8 (by kernel_rfl)
  (of_decide_eq_true (by kernel_rfl)) (by unfold Func.isWrapper; first | (rw [if_pos (by decide +kernel)]; kernel_rfl) | (rw [if_neg (by decide +kernel)]; exact ⟨rfl,rfl⟩))
  (fun os started H enc _ => unique_lifted os started H enc)

theorem unique_proved : Rows.MinimalUniqueSaid := unique_over
end Go.Proofs.Ytjjifefanjnghaa
