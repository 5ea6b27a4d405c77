/-
  CheckerKept: for every input the law returns true, and each argument reads afterwards as it read before. No condition on the inputs.
-/
import Derived.Test.YtccfcaejlohahaaVqx03
set_option linter.unusedSimpArgs false
set_option linter.unusedVariables false
namespace Go.Proofs.Ytccfcaejlohahaa
open Go.RowKit
set_option maxRecDepth 100000
open Go.ChangeShapes Go.WideShapes Go.ChangeAt Go.RowKit
theorem kept_lifted (os : Os) (started : os.Started) (H : Type) (enc : TypeId × Value → H) :
 ReturnsInHanded {} Try.checked os 3 .any (Rows.checkerKeptSpec.pre6 enc Try.prog Try.f3 Rows.checkerKeptRow.domain false) (Rows.checkerKeptSpec.post enc Try.prog Try.f3 false true false false) := by
 refine returnsInHanded_of_change (C := Try.checked) own_ started (by kernel_rfl) Try.func3
  (ChangeSpec.witness6 (enc := enc) (C := Try.checked) false ⟨#[],#[.agg #[.int .u8 0,.int .u8 0,.int .u8 0,.int .u8 0,.int .u8 0,.int .u8 0,.int .u8 0,.int .u8 0,.int .u8 0,.int .u8 0,.int .u8 0,.int .u8 0,.int .u8 0,.int .u8 0,.int .u8 0,.int .u8 0,.int .u8 0,.int .u8 0,.int .u8 0,.int .u8 0,.int .u8 0,.int .u8 0,.int .u8 0,.int .u8 0,.int .u8 0,.int .u8 0,.int .u8 0,.int .u8 0,.int .u8 0,.int .u8 0,.int .u8 0],.agg #[.int .u8 0,.int .u8 0,.int .i8 0,.int .u8 0,.int .u8 0,.int .i8 0]],[]⟩ 8 (by kernel_rfl) (by kernel_rfl) (by kernel_rfl) (by kernel_rfl)) ?_
 intro W base args ds gs before hval0 hW hcnd _;have hval : ∀ (j : Nat) t v,Try.f3.params[j]? = some t → args[j]? = some v → Value.okWide Try.prog W .any base t v := hval0;have hW' := hW;obtain ⟨p,q,hA0,hV,rfl,hfz,hnd⟩ := hW;have hA : DataW.TrodAll enc Try.prog W 0 (fun _ => true) true Try.f3.params.toList args.toList ds p := hA0;rw [Try.params3] at hA hval;obtain ⟨v0,vs0,d0,ds0,p0,q0,hargs,rfl,rfl,h0,r0⟩ := trodAll_cons hA;obtain ⟨v1,vs1,d1,ds1,p1,q1,rfl,rfl,rfl,h1,r1⟩ := trodAll_cons r0;obtain ⟨rfl,rfl,rfl⟩ := trodAll_nil r1;obtain rfl : args = #[v0,v1] := by cases args; simp_all
 obtain ⟨rfl,rfl⟩ := trodVars_none hV;have lt0 : ∀ x ∈ p0,x.block < W.heap.size := by obtain ⟨m,hm⟩ := h0; exact DataW.trod_lt m _ _ _ hm
 have lt1 : ∀ x ∈ p1,x.block < W.heap.size := by obtain ⟨m,hm⟩ := h1; exact DataW.trod_lt m _ _ _ hm
 have k0 := h0;have k1 := h1;have o0 := hval 0 30 v0 rfl rfl;have o1 := hval 1 34 v1 rfl rfl;obtain ⟨ev,g,fb,un,fc,rfl,b0,og,b1,b2,b3⟩ := sk_in o0 h0;obtain ⟨f1,a1,y1,f2,a2,y2,rfl,c1,c2,c3,c4,c5,c6⟩ := cc_in o1 h1;clear hA0 hval0;refine (lawKept_c ev g fb un fc f1 a1 y1 f2 a2 y2 W b0 og b1 b2 b3 ⟨c1,c2,c3⟩ ⟨c4,c5,c6⟩).mono fun e W' ⟨he,bel⟩ => ?_;subst he;exact ⟨_,rfl,_,_,_,[],_,[],hW',trodAll_mk1 (shut_bool Try.underlying4 _),(trodAll_cons_mk (Below.trod laidOut_ (by kernel_rfl) (of_decide_eq_true (by kernel_rfl)) k0 bel lt0) (trodAll_cons_mk (Below.trod laidOut_ (by kernel_rfl) (of_decide_eq_true (by kernel_rfl)) k1 bel lt1) trodAll_mk0)),rfl,bel.frame _,fun h => by cases h⟩

theorem kept_over : Rows.checkerKeptRow.holds Try.pinned (OpenSpec.ofChange Rows.checkerKeptSpec) :=
 OpenClaim.holds_of_wide 3 Try.f3 rfl rfl rfl rfl rfl rfl rfl ⟨rfl,rfl,rfl,rfl,rfl⟩ rfl rfl rfl rfl rfl (by kernel_rfl) Try.func3 (by kernel_rfl)
  (of_decide_eq_true (by kernel_rfl)) (by unfold Func.isWrapper; first | (rw [if_pos (by decide +kernel)]; kernel_rfl) | (rw [if_neg (by decide +kernel)]; exact ⟨rfl,rfl⟩))
  (fun os started H enc _ => kept_lifted os started H enc)

theorem kept_proved : Rows.CheckerKeptSaid := kept_over
end Go.Proofs.Ytccfcaejlohahaa
